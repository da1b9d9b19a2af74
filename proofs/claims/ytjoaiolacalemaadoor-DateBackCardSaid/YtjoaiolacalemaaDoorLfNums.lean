/- date.numbers, walked: the numbers of words, or none. -/
import Derived.Test.YtjoaiolacalemaaDoorLfToErr
import Derived.Lib.SmallJoins
import Derived.Laws.AppendOwn
namespace Go.Proofs.YtjoaiolacalemaaDoor.Lf
open Go.RowKit
def num1 (s : ByteArray) : Nat := (puL 10 281474976710655 s.data.toList).1
def isNum (s : ByteArray) : Prop := (puL 10 281474976710655 s.data.toList).2 = 0
instance (s : ByteArray) : Decidable (isNum s) := inferInstanceAs (Decidable (_ = _))
def numsL : List ByteArray → Option (List Nat)
  | [] => some []
  | s :: r => if isNum s then (numsL r).map (num1 s :: ·) else none
theorem numsL_bad {s : ByteArray} (r : List ByteArray) (h : ¬ isNum s) : numsL (s :: r) = none := by unfold numsL; rw [if_neg h]
theorem numsL_good {s : ByteArray} (r : List ByteArray) (h : isNum s) : numsL (s :: r) = (numsL r).map (num1 s :: ·) := by rw [numsL, if_pos h]
def intsV (l : List Nat) : List Value := l.map fun (x : Nat) => Value.int .i64 (x : Int)
/-- What date.numbers answers. -/
def numE (w' : World) (B : Nat) (r : Option (List Nat)) (m : Int) (e : Ending) : Prop :=
  match r with
  | none => e = .returned (.tuple #[.slice none 0 0, .bool false])
  | some l => ∃ v, e = .returned (.tuple #[v, .bool ((l.length : Int) == m)]) ∧ w'.ownsRow B 3 1 v l.length (intsV l)
theorem own_below {B : Nat} {e : TypeId} {k : Nat} {v : Value} {n : Nat} {xs : List Value} {w w' : World} (h : w.ownsRow B e k v n xs) (hb : Below w.heap.size w w') : w'.ownsRow B e k v n xs :=
  h.kept (row := none) ⟨hb.os, hb.tape, hb.output, hb.size, fun j hj _ => hb.block j hj⟩ (by cases hv : v.ownBlock <;> simp)
theorem puGo_le_mx (base mx : Nat) : ∀ (l : List UInt8) (n : Nat), n ≤ mx → (puGo base mx l n).1 ≤ mx
  | [], n, h => h
  | c :: r, n, h => by
    unfold puGo
    split
    · exact Nat.zero_le _
    · split
      · exact Nat.le_refl _
      · exact puGo_le_mx base mx r _ (by omega)
theorem num1_le (s : ByteArray) : num1 s ≤ 281474976710655 := by
  unfold num1 puL
  split
  · exact Nat.zero_le _
  · exact puGo_le_mx _ _ _ _ (Nat.zero_le _)
set_option maxHeartbeats 16000000 in
set_option maxRecDepth 100000 in
theorem numbers (b cap : Nat) (ws : List ByteArray) (m : Int) (w : World) (hlim : ∀ s ∈ ws, s.size ≤ 281474976710656) (hn : ws.length ≤ 4294967300) (hbw : b < w.heap.size)
    (hc : ∀ j, j < ws.length → w.cell? ⟨b, j, none⟩ = some (.string (ws.getD j ⟨#[]⟩))) (hs : ∃ te pe, w.cell? ⟨1, 0, none⟩ = some (.iface te pe)) (hr : ∃ te pe, w.cell? ⟨2, 0, none⟩ = some (.iface te pe)) :
    Calls Tryd.prog 13 #[.slice (some ⟨b, 0, none⟩) ws.length cap, .int .i64 m] w fun e w' => numE w' w.heap.size (numsL ws) m e ∧ Below w.heap.size w w' := by
  obtain ⟨i0, hi, hz0, hz1, hz2⟩ := info_parts (show (Tryd.prog.info? 3).map (fun i => (i.zero, i.size, i.bytes)) = some (some (Value.int .i64 0), 1, 8) from by kernel_rfl)
  obtain ⟨R, hR⟩ : ∃ R, numsL ws = R := ⟨_, rfl⟩
  rw [hR]
  obtain ⟨ts, ps, hs⟩ := hs
  obtain ⟨tr, pr, hr⟩ := hr
  have hGs : 1 < w.heap.size := Lib.lt_of_cell hs
  have hGr : 2 < w.heap.size := Lib.lt_of_cell hr
  have HC := Lib.hid hc
  have HL := Lib.hid hlim
  have H0 : Hid ((numsL ws).map (([] : List Nat) ++ ·) = R) := Lib.hid (by rw [hR]; cases R <;> rfl)
  clear hR hc hlim
  obtain ⟨n, hnl⟩ : ∃ n, n = ws.length := ⟨_, rfl⟩
  rw [← hnl] at hn ⊢
  have HN := Lib.hid hnl
  clear hnl
  go_enter Tryd.func13, Tryd.ntmps13
  go_wp2
  go_loopw [6, 13] (fun v i wr => ∃ (k : Nat) (acc : List Nat), k ≤ n ∧ i = .int .i64 k ∧ acc.length = k ∧ wr.ownsRow w.heap.size 3 1 v k (intsV acc) ∧ Below w.heap.size w wr ∧ Hid ((numsL (ws.drop k)).map (acc ++ ·) = R))
    (fun _ i _ => n - (intOf i).toNat)
  case atStart => exact ⟨0, [], Nat.zero_le _, rfl, rfl, World.ownsRow_nil _ _ _ _, Below.refl _ _, H0⟩
  case round =>
    obtain ⟨k, acc, hk, rfl, hal, hown, hb, hh⟩ := hrel
    by_cases hlt : k < n
    · have hkl : k < ws.length := by rw [← HN.out]; exact hlt
      have hck := (hb.cell (show (⟨b, k, none⟩ : Addr).block < w.heap.size from hbw)).trans (HC.out k hkl)
      have hg : ws.getD k ⟨#[]⟩ = ws[k]'hkl := by rw [List.getD_eq_getElem?_getD, List.getElem?_eq_getElem hkl]; rfl
      have hsz := HL.out _ (List.getElem_mem hkl)
      have hp := hh.out
      rw [List.drop_eq_getElem_cons hkl] at hp
      rw [hg] at hck
      clear hg hh
      generalize ws[k]'hkl = s at hck hsz hp
      have hp10 := public10 s wr hsz ⟨ts, ps, (hb.cell (show (⟨1, 0, none⟩ : Addr).block < w.heap.size from hGs)).trans hs⟩ ⟨tr, pr, (hb.cell (show (⟨2, 0, none⟩ : Addr).block < w.heap.size from hGr)).trans hr⟩
      have hn1 := num1_le s
      by_cases hx : isNum s
      · rw [numsL_good _ hx, Option.map_map] at hp
        have hcall : Calls Tryd.prog 21 #[.string s, .int .i64 10, .int .i64 48] wr fun e w' => e = .returned (.tuple #[.int .u64 (num1 s), .nilIface]) ∧ Below wr.heap.size wr w' :=
          hp10.mono fun e w' h => ⟨h.1.elim (fun h => h.2) (fun h => absurd hx h.1), h.2⟩
        have HP : Hid ((numsL (ws.drop (k + 1))).map ((acc ++ [num1 s]) ++ ·) = R) := Lib.hid (by
          rw [← hp]
          cases numsL (ws.drop (k + 1)) with
          | none => rfl
          | some l => simp)
        clear hp10 hp hx
        generalize num1 s = u at hn1 hcall HP
        go_wp2_with (first
          | (go_at_call 21; refine hcall.mono ?_; rintro e W1 ⟨rfl, hW⟩; have hown1 := own_below hown hW; have hsz1 := hW.size; have hbs := hb.size)
          | (at_builtin; refine wpList_append_own _ rfl _ _ 37 rfl w.heap.size 3 i0 (.int .i64 0) 1 8 Tryd.underlying37 hi hz0 hz1 hz2 rfl (by decide) _ _ _ rfl (hown1.alloc _) ⟨W1.heap.size, 0, none⟩ 1 1 [.int .i64 (u : Int)] rfl rfl ?c1 ?c2 ?c3 ?c4 ?c5 ?_))
        case c1 =>
          intro j u hj
          match j, hj with
          | 0, hj => simp at hj; subst hj; simp [Addr.add]
        case c2 => intro u hu; simp at hu; subst hu; rfl
        case c3 => unfold maxLen; omega
        case c4 => omega
        case c5 => simp; omega
        · intro v' w1 hown' hgrow _
          have hb1 : Below w.heap.size w w1 := ((hb.trans (hW.mono hbs)).alloc (by omega) _).grown hgrow (by simp; omega) (fun j hj => (hown.lt j hj).1)
          go_wp2
          go_roundw
          case rel => exact ⟨k + 1, acc ++ [u], by omega, by simp, by simp [hal], by simpa [intsV] using hown', hb1, HP⟩
          case measure => simp [intOf]; omega
      · rw [numsL_bad _ hx] at hp
        have hcall : Calls Tryd.prog 21 #[.string s, .int .i64 10, .int .i64 48] wr fun e w' => (∃ x N, e = .returned (.tuple #[.int .u64 x, .iface 73 (.pointer (some ⟨N, 0, none⟩))])) ∧ Below wr.heap.size wr w' :=
          hp10.mono fun e w' h => ⟨h.1.elim (fun h => absurd h.1 hx) (fun h => h.2), h.2⟩
        have HP := Lib.hid hp
        clear hp10 hp hx
        go_wp2_with (go_at_call 21; refine hcall.mono ?_; rintro e W1 ⟨⟨x, N, rfl⟩, hW⟩)
        go_ret2
        refine ⟨?_, hb.trans (hW.mono hb.size)⟩
        rw [← HP.out]
        rfl
    · obtain rfl : k = n := by omega
      have hp := hh.out
      rw [List.drop_eq_nil_of_le (by rw [← HN.out]; exact Nat.le_refl _)] at hp
      have HP := Lib.hid hp
      clear hp hh
      have hown0 := Lib.hid hown
      rcases Go.Joins.ownsRow_forms hown with ⟨rfl, h0⟩ | ⟨g, c, rfl⟩
      · clear hown
        go_wp2
        go_ret2
        refine ⟨?_, hb⟩
        rw [← HP.out]
        exact ⟨.slice none 0 0, by simp [hal, h0], by simpa [hal] using hown0.out⟩
      · clear hown
        go_wp2
        go_ret2
        refine ⟨?_, hb⟩
        rw [← HP.out]
        exact ⟨.slice (some ⟨g, 0, none⟩) k c, by simp [hal], by simpa [hal] using hown0.out⟩
end Go.Proofs.YtjoaiolacalemaaDoor.Lf
