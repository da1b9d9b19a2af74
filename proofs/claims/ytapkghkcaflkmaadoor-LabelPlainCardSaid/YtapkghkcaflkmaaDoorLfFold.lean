/- label.Fold, walked: capitals made small. -/
import Derived.Test.YtapkghkcaflkmaaDoorLfFirst
import Derived.Test.YtapkghkcaflkmaaDoorLfConv
import Derived.Laws.BitsAllLaws
namespace Go.Proofs.YtapkghkcaflkmaaDoor.Lf
open Go.RowKit Go.Lib Go.Proofs.YtapkghkcaflkmaaDoor.Pl
/-- A byte made small. -/
def foldB (c : UInt8) : UInt8 := if 65 ≤ c.toNat ∧ c.toNat ≤ 90 then UInt8.ofNat (c.toNat + 32) else c
def foldL (l : List UInt8) : List UInt8 := l.map foldB
/-- What byte j is when k bytes were gone through. -/
def atFold (l : List UInt8) (k j : Nat) : Int := if j < k then ((foldB (l.getD j 0)).toNat : Int) else ((l.getD j 0).toNat : Int)
theorem or32 : ∀ c : Fin 26, bits .or .u8 (((65 + c.val : Nat) : Int)) 32 = ((97 + c.val : Nat) : Int) := by decide +kernel
theorem or32_at (c : UInt8) (h1 : 65 ≤ c.toNat) (h2 : c.toNat ≤ 90) : bits .or .u8 (c.toNat : Int) 32 = ((foldB c).toNat : Int) := by
  have := or32 ⟨c.toNat - 65, by omega⟩
  simp only at this
  rw [show 65 + (c.toNat - 65) = c.toNat by omega] at this
  rw [this]
  unfold foldB
  rw [if_pos ⟨h1, h2⟩]
  simp
  omega
theorem fold_no (c : UInt8) (h : ¬ (65 ≤ c.toNat ∧ c.toNat ≤ 90)) : foldB c = c := by unfold foldB; rw [if_neg h]
theorem atFold_lt (l : List UInt8) (k j : Nat) (h : j < k) : atFold l k j = ((foldB (l.getD j 0)).toNat : Int) := if_pos h
theorem atFold_ge (l : List UInt8) (k j : Nat) (h : k ≤ j) : atFold l k j = ((l.getD j 0).toNat : Int) := if_neg (by omega)
theorem atFold_other (l : List UInt8) (k j : Nat) (h : j ≠ k) : atFold l (k + 1) j = atFold l k j := by
  unfold atFold
  by_cases h1 : j < k
  · rw [if_pos (by omega), if_pos h1]
  · rw [if_neg (by omega), if_neg h1]
set_option maxHeartbeats 800000 in
set_option maxRecDepth 100000 in
theorem fold_any (s : ByteArray) (w : World) (hs : s.size ≤ 9223372036854775807) :
    Calls Tryd.prog 20 #[.string s] w fun e w' => e = .returned (.string ⟨(foldL s.data.toList).toArray⟩) ∧ Below w.heap.size w w' := by
  obtain ⟨W1, C, hcv, hc1, hf1, hz1, hb1⟩ := to_bytes w s
  have HC := Lib.hid hc1
  have HF := Lib.hid hf1
  clear hc1 hf1
  go_enter Tryd.func20, Tryd.ntmps20
  go_wp2
  go_loopw [4, 5, 10] (fun _ _ j wr => ∃ k : Nat, k ≤ s.size ∧ j = .int .i64 k ∧ (∀ i, i < s.size → wr.cell? ⟨w.heap.size, i, none⟩ = some (.int .u8 (atFold s.data.toList k i))) ∧ (∀ i, i < s.size → wr.frozen? ⟨w.heap.size, i, none⟩ = false) ∧ w.heap.size < wr.heap.size ∧ Below w.heap.size w wr) (fun _ _ j _ => s.size - (RowKit.intOf j).toNat)
  case atStart => exact ⟨0, Nat.zero_le _, rfl, HC.out, HF.out, hz1, hb1⟩
  case round =>
    obtain ⟨k, hk, rfl, hc, hf, hz, hb⟩ := hrel
    have Hc := Lib.hid hc
    have Hf := Lib.hid hf
    clear hc hf
    by_cases hlt : k < s.size
    · have hck := Hc.out k hlt
      have hfk := Hf.out k hlt
      rw [atFold_ge _ _ _ (Nat.le_refl k)] at hck
      obtain ⟨c, hcc⟩ : ∃ c, s.data.toList.getD k 0 = c := ⟨_, rfl⟩
      rw [hcc] at hck
      have Hcc := Lib.hid hcc
      clear hcc
      by_cases h1 : 65 ≤ c.toNat ∧ c.toNat ≤ 90
      · have ho := Lib.hid (or32_at c h1.1 h1.2)
        have b1 : (65 : Int) ≤ (c.toNat : Int) := by omega
        have b2 : (c.toNat : Int) ≤ 90 := by omega
        have H1 := Lib.hid h1
        clear h1
        go_wp2
        go_roundw
        case rel =>
          refine ⟨k + 1, by omega, by go_num, ?_, ?_, by simpa using hz, hb.setCell (p := ⟨w.heap.size, k, none⟩) (Nat.le_refl _) _⟩
          · intro i hi
            by_cases e : i = k
            · subst e
              rw [World.cell?_setCell_same' _ _ _ (by rw [hck]; rfl), ho.out, atFold_lt _ _ _ (by omega), Hcc.out]
            · have hne : (⟨w.heap.size, k, none⟩ : Addr) ≠ ⟨w.heap.size, i, none⟩ := fun h => e (by cases h; rfl)
              rw [World.cell?_setCell_other _ _ _ _ hne, Hc.out i hi, atFold_other _ _ _ e]
          · intro i hi
            rw [World.frozen?_setCell]
            exact Hf.out i hi
        case measure => simp [RowKit.intOf]; omega
      · have hn := Lib.hid (fold_no c h1)
        have hfin : ∀ i, i < s.size → wr.cell? ⟨w.heap.size, i, none⟩ = some (.int .u8 (atFold s.data.toList (k + 1) i)) := by
          intro i hi
          by_cases e : i = k
          · subst e
            rw [hck, atFold_lt _ _ _ (by omega), Hcc.out, hn.out]
          · rw [Hc.out i hi, atFold_other _ _ _ e]
        have Hfin := Lib.hid hfin
        clear hfin
        by_cases b1 : (65 : Int) ≤ (c.toNat : Int)
        · have b2 : ¬ (c.toNat : Int) ≤ 90 := by omega
          clear h1
          go_wp2
          go_roundw
          case rel => exact ⟨k + 1, by omega, by go_num, Hfin.out, Hf.out, hz, hb⟩
          case measure => simp [RowKit.intOf]; omega
        · clear h1
          go_wp2
          go_roundw
          case rel => exact ⟨k + 1, by omega, by go_num, Hfin.out, Hf.out, hz, hb⟩
          case measure => simp [RowKit.intOf]; omega
    · obtain rfl : k = s.size := by omega
      have hsl : s.data.toList.length = s.size := by rw [Array.length_toList]; rfl
      have hcv2 := of_bytes wr w.heap.size s.size C ((foldL s.data.toList).map fun c => (c.toNat : Int)) (by rw [List.length_map]; unfold foldL; rw [List.length_map, hsl]) (fun j hj => by
        rw [Hc.out j hj, atFold_lt _ _ _ hj]
        congr 2
        unfold foldL
        rw [List.getD_eq_getElem?_getD, List.getD_eq_getElem?_getD, List.getElem?_map, List.getElem?_map, List.getElem?_eq_getElem (by omega)]
        rfl)
      have hz2 := Lib.hid hsl
      clear hsl
      go_wp2
      go_ret
      refine ⟨ret_str ?_, hb⟩
      unfold strOfNums
      simp [List.map_map, Function.comp_def]
def label_Fold.f (a0 : ByteArray) : Option ByteArray := if a0.size ≤ 9223372036854775807 then some ⟨(foldL a0.data.toList).toArray⟩ else none
theorem label_Fold.calls (a0 : ByteArray) (r : ByteArray) (w : World) (h : label_Fold.f a0 = some r) :
    Calls Tryd.prog 20 #[.string a0] w fun e w' => e = .returned (.string r) ∧ Below w.heap.size w w' := by
  unfold label_Fold.f at h
  by_cases hs : a0.size ≤ 9223372036854775807
  · rw [if_pos hs] at h
    injection h with h
    subst h
    exact fold_any a0 w hs
  · rw [if_neg hs] at h
    exact absurd h (by simp)
end Go.Proofs.YtapkghkcaflkmaaDoor.Lf
