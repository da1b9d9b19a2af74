/- stream.noughts, stream.runs and its iterator, walked. -/
import Derived.Test.YtfoniidbkbmjeaaDoorLfShelf
import Derived.Test.YtfoniidbkbmjeaaDoorPlRuns
import Derived.RangeFuncNested
import Derived.RangeFuncBound
import Derived.RangeFuncCalls
import Derived.RangeFuncLeaves
import Derived.Shelf.Abstract
import Derived.Shelf.RegionOpen
import Derived.WalkKit
import Derived.OwnWalkIn
import Derived.TacticsInMore
import Derived.LoopNIn
import Derived.LoopIn
import Derived.Stop.RegionWithIn
import Derived.Lib.Repeat
import Derived.Lib.Hide
import Derived.Laws.DeepStrings4
namespace Go.Proofs.YtfoniidbkbmjeaaDoor.Lf
open Go.RowKit Go.Shelf Go.Lib Go.Proofs.YtfoniidbkbmjeaaDoor.Pl
attribute [local go_sem] Oper.semAt_some
theorem repeat_nul (n : Nat) : Lib.repeatL [(0 : UInt8)] n = List.replicate n 0 := by
  induction n with
  | zero => rfl
  | succ n ih => rw [Lib.repeatL, ih]; rfl
set_option maxHeartbeats 4000000 in
set_option maxRecDepth 100000 in
theorem noughts_any (n : Nat) (w : World) (hn : n ≤ 1000000) :
    Calls Tryd.prog 31 #[.int .i64 n] w fun e w' => e = .returned (.string (ba (List.replicate (16 * n) 0))) ∧ Below w.heap.size w w' := by
  have h := Sh.strings_Repeat ⟨#[0]⟩ (16 * n) w (by omega) (by show 1 * (16 * n) ≤ _; omega)
  rw [show (⟨#[0]⟩ : ByteArray).data.toList = [0] from rfl, repeat_nul] at h
  go_enter Tryd.func31, Tryd.ntmps31
  go_wp2_with (first | (go_at_call 44; fail))
  rw [show (n : Int) * 16 = ((16 * n : Nat) : Int) by omega]
  refine h.mono ?_
  rintro e w' ⟨rfl, hb⟩
  go_wp2
  go_ret
  exact ⟨rfl, hb⟩
def stream_noughts.f (n : Int) : Option ByteArray := if 0 ≤ n ∧ n ≤ 1000000 then some (ba (List.replicate (16 * n.toNat) 0)) else none
theorem stream_noughts.calls (a0 : Int) (r1 : ByteArray) (w : World) (h : stream_noughts.f a0 = some r1) :
    Calls Tryd.prog 31 #[.int .i64 a0] w fun e w' => e = .returned (.string r1) ∧ Below w.heap.size w w' := by
  unfold stream_noughts.f at h
  split at h
  · rename_i hc
    cases h
    obtain ⟨n, rfl⟩ : ∃ n : Nat, a0 = (n : Int) := ⟨a0.toNat, by omega⟩
    rw [Int.toNat_natCast]
    exact noughts_any n w (by omega)
  · cases h
set_option maxHeartbeats 4000000 in
set_option maxRecDepth 100000 in
theorem runs_any (flat : ByteArray) (w : World) :
    Calls Tryd.prog 19 #[.string flat] w fun e w' => e = .returned (.func (.func 38) #[] #[.pointer (some ⟨w.heap.size, 0, none⟩)]) ∧ w' = w.alloc (.cells #[.string flat] 9) := by
  go_enter Tryd.func19, Tryd.ntmps19
  go_wp2
  go_ret
  exact ⟨rfl, rfl⟩
/-- A run as it is handed to the loop: small. -/
abbrev Run := { x : Nat × ByteArray // x.1 < 256 ∧ x.2.size ≤ 1024 }
def mkRun (f : Nat) (s : ByteArray) : Run := if h : f < 256 ∧ s.size ≤ 1024 then ⟨(f, s), h⟩ else ⟨(0, ⟨#[]⟩), by decide⟩
theorem mkRun_val (f : Nat) (s : ByteArray) (h : f < 256 ∧ s.size ≤ 1024) : (mkRun f s).1 = (f, s) := by unfold mkRun; rw [dif_pos h]
def encR (x : Run) : Array Value := #[.agg #[.int .i64 (x.1.1 : Int), .string x.1.2]]
def full (flat : ByteArray) (i : Nat) : Bool := (flat.extract (16 * i) (16 * i + 16)).toList != List.replicate 16 0
/-- What is still to come when cluster i is next, and those from f on are open. -/
def restY (flat : ByteArray) (n : Nat) : Nat → Nat → Nat → List Run
  | 0, _, _ => []
  | k + 1, i, f => if i < n ∧ full flat i = true then restY flat n k (i + 1) f else (if f < i then [mkRun f (flat.extract (16 * f) (16 * i))] else []) ++ restY flat n k (i + 1) (i + 1)
theorem wrap16 (p : Nat) (h : p ≤ 1024) : IntKind.i64.wrap ((p : Int) + 16) = (p : Int) + 16 := by
  unfold IntKind.wrap
  simp [IntKind.bits, IntKind.signed]
  omega
theorem enc_run (flat : ByteArray) (n i f p q : Nat) (Y : ByteArray) (hp : p = 16 * i) (hq : q = 16 * f) (hz : flat.size = 16 * n) (hn : n ≤ 64) (hf : f < i) (hi : i ≤ n) (hY : flat.extract q p = Y) : encR (mkRun f Y) = #[.agg #[.int .i64 ((q : Int) / 16), .string Y]] := by
  have h : f < 256 ∧ Y.size ≤ 1024 := by
    refine ⟨by omega, ?_⟩
    rw [← hY, ByteArray.size_extract]
    omega
  unfold encR
  rw [mkRun_val f Y h, show (q : Int) / 16 = (f : Int) by omega]
theorem slice_run (flat : ByteArray) (p q : Nat) (hqp : q ≤ p) (hp : (p : Int) ≤ (flat.size : Int)) (Y : ByteArray) (hY : flat.extract q p = Y) (W : World) : (Instr.slice 9 (.string flat) (some (.int .i64 (q : Int))) (some (.int .i64 (p : Int))) none).run Tryd.prog W = .ok (.string Y) W := by
  rw [run_slice_string_if W 9 flat .i64 .i64 (q : Int) (p : Int) Tryd.underlying9, if_pos ⟨by omega, hp⟩, if_pos ⟨by omega, by omega⟩, Int.toNat_natCast, Int.toNat_natCast, hY]
theorem cell_lt {w : World} {p : Addr} {v : Value} (h : w.cell? p = some v) : p.block < w.heap.size := by
  rcases Nat.lt_or_ge p.block w.heap.size with h' | h'
  · exact h'
  · unfold World.cell? at h; rw [Array.getElem?_eq_none h'] at h; simp at h
theorem abide {β : Type} {B : Nat} {J : β → World → Prop} (hJ : AbidesFrom B J) {s : β} {w w' : World} (h : J s w) (hb : Below w.heap.size w w') : J s w' :=
  hJ s w w' none h ⟨hb.os, hb.tape, hb.output, hb.size, fun k hk _ => hb.block k hk⟩ (fun r e => by cases e)
theorem abide_drew {β : Type} {B : Nat} {J : β → World → Prop} (hJ : AbidesFrom B J) {s : β} {w : World} (h : J s w) : J s w.drew := abide hJ h ⟨rfl, rfl, rfl, Nat.le_refl _, fun _ _ => rfl⟩
set_option maxHeartbeats 8000000 in
set_option maxRecDepth 100000 in
theorem runs1_in (m l Bn : Nat) (flat : ByteArray) (Kp : World → World → Prop) (hkc : ∀ {A B : World}, Kp A B → A.cell? ⟨Bn, 0, none⟩ = some (.string flat) → B.cell? ⟨Bn, 0, none⟩ = some (.string flat)) (n : Nat) (hz : flat.size = 16 * n) (hn : n ≤ 64) (J Jx : List Run → World → Prop)
    (hY : ∀ pre x W, J pre W → pre.length < 1000 → YieldAt Fence.wide (m - 1) Tryd.prog l (encR x) W fun e W' =>
      (e = .returned (.bool true) ∧ J (pre ++ [x]) W' ∧ Kp W W') ∨ (e = .returned (.bool false) ∧ Jx (pre ++ [x]) W'))
    (W : World) (hJ : AbidesFrom W.heap.size J) (hBn : W.cell? ⟨Bn, 0, none⟩ = some (.string flat)) (h0 : J [] W) :
    CallsIn Fence.wide m Tryd.prog 38 #[.func (.yield l) #[] #[], .pointer (some ⟨Bn, 0, none⟩)] W fun e W' => (∃ v, e = .returned v) ∧
      ((∃ ys, ys = restY flat n (n + 1) 0 0 ∧ J ys W') ∨ (∃ pre, True ∧ Jx pre W')) := by
  have HJ := Lib.hid hJ
  have HY := Lib.hid hY
  clear hJ hY
  have HZ := Lib.hid hz
  refine callsIn_of_wp Tryd.func38 rfl trivial ?_ rfl
  simp only [Tryd.ntmps38, List.size_toArray, List.length_cons, List.length_nil, Nat.reduceAdd, Nat.reduceSub, Array.replicate_succ, Array.replicate_zero, List.push_toArray, List.append_toArray, List.nil_append, List.cons_append]
  gi_wp2
  gi_loopw [3, 4] (fun vf va wr => ∃ (k i f p q : Nat) (pre : List Run), vf = .int .i64 (q : Int) ∧ va = .int .i64 (p : Int) ∧ p = 16 * i ∧ q = 16 * f ∧ k + i = n + 1 ∧ f ≤ i ∧ pre.length ≤ i ∧ wr.cell? ⟨Bn, 0, none⟩ = some (.string flat) ∧ J pre wr ∧ Hid (pre ++ restY flat n k i f = restY flat n (n + 1) 0 0)) (fun _ va _ => 16 * n + 16 - (RowKit.intOf va).toNat)
  case atStart => exact ⟨n + 1, 0, 0, 0, 0, [], rfl, rfl, rfl, rfl, by omega, by omega, by simp, hBn, h0, Lib.hid rfl⟩
  case round =>
    obtain ⟨k, i, f, p, q, pre, rfl, rfl, hp, hq, hk, hf, hl, hc, hj, hr⟩ := hrel
    have HP := Lib.hid hp
    have HQ := Lib.hid hq
    cases k with
    | zero =>
      have c1 : ¬ (p : Int) ≤ (flat.size : Int) := by omega
      clear hp hq
      gi_wp2
      go_end0
      exact ⟨⟨_, rfl⟩, .inl (by have h := hr.out; rw [restY, List.append_nil] at h; rw [← h]; exact hj)⟩
    | succ k =>
      have c1 : (p : Int) ≤ (flat.size : Int) := by omega
      obtain ⟨O, hO⟩ : ∃ O : ByteArray, ba (List.replicate (16 * 1) 0) = O := ⟨_, rfl⟩
      have hOt : O.toList = List.replicate 16 0 := by rw [← hO, ba_toList]
      have hN := fun w => noughts_any 1 w (by decide)
      rw [hO] at hN
      by_cases hin : i < n
      · have c2 : (p : Int) < (flat.size : Int) := by omega
        have c3 : (p : Int) + 16 ≤ (flat.size : Int) := by omega
        have c4 : p ≤ 1024 := by omega
        have c5 : IntKind.i64.wrap ((p : Int) + 16) = (p : Int) + 16 := wrap16 p c4
        have hBw : Bn < wr.heap.size := cell_lt hc
        obtain ⟨X, hX⟩ : ∃ X, flat.extract p (p + 16) = X := ⟨_, rfl⟩
        have hsl : ∀ W, (Instr.slice 9 (.string flat) (some (.int .i64 (p : Int))) (some (.int .i64 ((p : Int) + 16))) none).run Tryd.prog W = .ok (.string X) W := fun W => by
          rw [run_slice_string_if W 9 flat .i64 .i64 (p : Int) ((p : Int) + 16) Tryd.underlying9, if_pos ⟨by omega, c3⟩, if_pos ⟨by omega, by omega⟩]
          rw [show ((p : Int) + 16).toNat = p + 16 by omega, Int.toNat_natCast, hX]
        have hdrew : Below wr.heap.size wr wr.drew := ⟨rfl, rfl, rfl, Nat.le_refl _, fun _ _ => rfl⟩
        have hfl : full flat i = (X.toList != O.toList) := by unfold full; rw [← hp, hX, hOt]
        by_cases hfu : X.toList = O.toList
        · have b1 : (X.toList == O.toList) = true := by simpa using hfu
          have b2 : (X.toList != O.toList) = false := by simpa using hfu
          rw [b2] at hfl
          have HF := Lib.hid hfl
          clear hp hq hO hz hX hOt hfl
          by_cases hfi : f < i
          · have d1 : (q : Int) < (p : Int) := by have := HP.out; have := HQ.out; omega
            obtain ⟨Y, hY'⟩ : ∃ Y, flat.extract q p = Y := ⟨_, rfl⟩
            have hx := Lib.hid (enc_run flat n i f p q Y HP.out HQ.out HZ.out hn hfi (by omega) hY')
            have hsl2 := slice_run flat p q (by omega) c1 Y hY'
            have HY' := Lib.hid hY'
            have hl1 : pre.length < 1000 := by omega
            clear hY'
            gi_wp2
            refine wpIn_wide.2 ?_
            go_region_with (go_at_call 31; refine (hN _).mono ?_; rintro e w2 ⟨rfl, hb2⟩; have hc2 := (hb2.cell (p := ⟨Bn, 0, none⟩) hBw).trans hc; have hb3 := hdrew.trans hb2; have hj2 := abide HJ.out hj hb3; have hBw2 := Nat.lt_of_lt_of_le hBw hb3.size)
            all_goals (
              obtain ⟨fn, tmps, assign, body, hy, hR⟩ := HY.out pre (mkRun f Y) w2 hj2 hl1
              rw [hx.out] at hy
              gi_wp2
              refine ⟨fun h => absurd h (by simp [Fence.wide]), ?_⟩
              refine hR.mono ?_
              rintro e W3 (⟨rfl, hJ3, hk3⟩ | ⟨rfl, hJx3⟩))
            all_goals first
              | (gi_wp2
                 go_roundw
                 case rel => exact ⟨k, i + 1, i + 1, p + 16, p + 16, pre ++ [mkRun f Y], by simp, by simp, by have := HP.out; omega, by have := HP.out; omega, by omega, by omega, by rw [List.length_append, List.length_singleton]; omega, hkc hk3 hc2, hJ3, Lib.hid (by have h := hr.out; rw [restY, if_neg (by rw [HF.out]; simp), if_pos hfi, ← HP.out, ← HQ.out, HY'.out, ← List.append_assoc] at h; exact h)⟩
                 case measure => simp only [RowKit.intOf]; have := HP.out; omega)
              | (gi_wp2
                 refine bodyPost_ret (results_none rfl _ _ _) rfl ?_
                 first | exact ⟨⟨_, rfl⟩, .inr ⟨_, trivial, hJx3⟩⟩ | exact ⟨⟨_, rfl⟩, .inr ⟨_, hJx3⟩⟩)
              | fail
          · have d1 : ¬ (q : Int) < (p : Int) := by have := HP.out; have := HQ.out; omega
            gi_wp2
            refine wpIn_wide.2 ?_
            go_region_with (go_at_call 31; refine (hN _).mono ?_; rintro e w2 ⟨rfl, hb2⟩; have hc2 := (hb2.cell (p := ⟨Bn, 0, none⟩) hBw).trans hc; have hb3 := hdrew.trans hb2; have hj2 := abide HJ.out hj hb3; have hBw2 := Nat.lt_of_lt_of_le hBw hb3.size)
            all_goals (
              gi_wp2
              refine ⟨fun _ h => (by cases h), ?_⟩
              gi_wp2
              go_roundw)
            case rel => exact ⟨k, i + 1, i + 1, p + 16, p + 16, pre, by simp, by simp, by have := HP.out; omega, by have := HP.out; omega, by omega, by omega, by omega, hc2, hj2, Lib.hid (by have h := hr.out; rw [restY, if_neg (by rw [HF.out]; simp), if_neg hfi, List.nil_append] at h; exact h)⟩
            case measure => simp only [RowKit.intOf]; have := HP.out; omega
            case rel => exact ⟨k, i + 1, i + 1, p + 16, p + 16, pre, by simp, by simp, by have := HP.out; omega, by have := HP.out; omega, by omega, by omega, by omega, hc2, hj2, Lib.hid (by have h := hr.out; rw [restY, if_neg (by rw [HF.out]; simp), if_neg hfi, List.nil_append] at h; exact h)⟩
            case measure => simp only [RowKit.intOf]; have := HP.out; omega
        · have b1 : (X.toList == O.toList) = false := by simpa using hfu
          have b2 : (X.toList != O.toList) = true := by simpa using hfu
          rw [b2] at hfl
          have HF := Lib.hid hfl
          clear hp hq hO hz hX hOt hfl
          gi_wp2
          refine wpIn_wide.2 ?_
          go_region_with (go_at_call 31; refine (hN _).mono ?_; rintro e w2 ⟨rfl, hb2⟩; have hc2 := (hb2.cell (p := ⟨Bn, 0, none⟩) hBw).trans hc; have hb3 := hdrew.trans hb2; have hj2 := abide HJ.out hj hb3; have hBw2 := Nat.lt_of_lt_of_le hBw hb3.size)
          all_goals (
            gi_wp2
            go_roundw)
          case rel => exact ⟨k, i + 1, f, p + 16, q, pre, rfl, by simp, by have := HP.out; omega, HQ.out, by omega, by omega, by omega, hc2, hj2, Lib.hid (by have h := hr.out; rw [restY, if_pos ⟨hin, HF.out⟩] at h; exact h)⟩
          case measure => simp only [RowKit.intOf]; have := HP.out; omega
          case rel => exact ⟨k, i + 1, f, p + 16, q, pre, rfl, by simp, by have := HP.out; omega, HQ.out, by omega, by omega, by omega, hc2, hj2, Lib.hid (by have h := hr.out; rw [restY, if_pos ⟨hin, HF.out⟩] at h; exact h)⟩
          case measure => simp only [RowKit.intOf]; have := HP.out; omega
      · have c2 : ¬ (p : Int) < (flat.size : Int) := by omega
        have c2b : decide (p < flat.size) = false := decide_eq_false (by omega)
        have c2n : flat.size ≤ p := by omega
        have c4 : p ≤ 1024 := by omega
        have c4q : q ≤ 1024 := by omega
        have c5 : IntKind.i64.wrap ((p : Int) + 16) = (p : Int) + 16 := wrap16 p c4
        have hBw : Bn < wr.heap.size := cell_lt hc
        have hdrew : Below wr.heap.size wr wr.drew := ⟨rfl, rfl, rfl, Nat.le_refl _, fun _ _ => rfl⟩
        have hj2 := abide HJ.out hj hdrew
        have hc2 : wr.drew.cell? ⟨Bn, 0, none⟩ = some (.string flat) := hc
        clear hp hq hO hz
        by_cases hfi : f < i
        · have d1 : (q : Int) < (p : Int) := by have := HP.out; have := HQ.out; omega
          obtain ⟨Y, hY'⟩ : ∃ Y, flat.extract q p = Y := ⟨_, rfl⟩
          have hx := Lib.hid (enc_run flat n i f p q Y HP.out HQ.out HZ.out hn hfi (by omega) hY')
          have hsl2 := slice_run flat p q (by omega) c1 Y hY'
          have HY' := Lib.hid hY'
          have hl1 : pre.length < 1000 := by omega
          clear hY'
          obtain ⟨fn, tmps, assign, body, hy, hR⟩ := HY.out pre (mkRun f Y) wr.drew hj2 hl1
          rw [hx.out] at hy
          gi_wp2
          refine wpIn_wide.2 ?_
          go_region
          all_goals (
            gi_wp2
            refine ⟨fun h => absurd h (by simp [Fence.wide]), ?_⟩
            refine hR.mono ?_
            rintro e W3 (⟨rfl, hJ3, hk3⟩ | ⟨rfl, hJx3⟩))
          all_goals first
            | (gi_wp2
               go_roundw
               case rel => exact ⟨k, i + 1, i + 1, p + 16, p + 16, pre ++ [mkRun f Y], by simp, by simp, by have := HP.out; omega, by have := HP.out; omega, by omega, by omega, by rw [List.length_append, List.length_singleton]; omega, hkc hk3 hc2, hJ3, Lib.hid (by have h := hr.out; rw [restY, if_neg (fun h => hin h.1), if_pos hfi, ← HP.out, ← HQ.out, HY'.out, ← List.append_assoc] at h; exact h)⟩
               case measure => simp only [RowKit.intOf]; have := HP.out; omega)
            | (gi_wp2
               refine bodyPost_ret (results_none rfl _ _ _) rfl ?_
               first | exact ⟨⟨_, rfl⟩, .inr ⟨_, trivial, hJx3⟩⟩ | exact ⟨⟨_, rfl⟩, .inr ⟨_, hJx3⟩⟩)
            | fail
        · have d1 : ¬ (q : Int) < (p : Int) := by have := HP.out; have := HQ.out; omega
          gi_wp2
          refine wpIn_wide.2 ?_
          go_region
          all_goals (
            gi_wp2
            refine ⟨fun _ h => (by cases h), ?_⟩
            gi_wp2
            go_roundw)
          case rel => exact ⟨k, i + 1, i + 1, p + 16, p + 16, pre, by simp, by simp, by have := HP.out; omega, by have := HP.out; omega, by omega, by omega, by omega, hc2, hj2, Lib.hid (by have h := hr.out; rw [restY, if_neg (fun h => hin h.1), if_neg hfi, List.nil_append] at h; exact h)⟩
          case measure => simp only [RowKit.intOf]; have := HP.out; omega
/-- The iterator's contract: just these runs come. -/
theorem runs_stops (m Bn : Nat) (flat : ByteArray) (n : Nat) (hz : flat.size = 16 * n) (hn : n ≤ 64) (w0 : World) (hBn : w0.cell? ⟨Bn, 0, none⟩ = some (.string flat)) :
    SeqStopsK Fence.wide m Tryd.prog 38 #[.pointer (some ⟨Bn, 0, none⟩)] encR (fun A B => ∀ v, A.cell? ⟨Bn, 0, none⟩ = some v → B.cell? ⟨Bn, 0, none⟩ = some v) (fun ys => ys = restY flat n (n + 1) 0 0) (fun _ => True) 1000 w0 :=
  fun l J Jx W hW hJ _ hY h0 => runs1_in m l Bn flat _ (fun h hc => h _ hc) n hz hn J Jx hY W hJ ((hW.cell (p := ⟨Bn, 0, none⟩) (cell_lt hBn)).trans hBn) h0
end Go.Proofs.YtfoniidbkbmjeaaDoor.Lf
