-- Packed by pack.py, a program of this session, out of texts of this claim.
import Derived.Test.YtboommbclbjlnaaDoorClJournalJoins1
import Derived.Test.YtboommbclbjlnaaDoorClJournalJoins2
section
-- Written by printx.py, a program of this session over the kit's print: each Go function as a plain Lean function, and that the Go code computes it.
namespace Go.Proofs.YtboommbclbjlnaaDoor.Fn
open Go.RowKit Go.Proofs.YtboommbclbjlnaaDoorW.PrintWords Go.Proofs.YtboommbclbjlnaaDoorW.PrintLast Go.Proofs.YtboommbclbjlnaaDoorW.PrintMore Go.Proofs.YtboommbclbjlnaaDoor.Lf
attribute [local go_sem] max2_int min2_int max_two min_two max_three min_three max_four min_four   -- for this text's walks alone
set_option linter.unusedVariables false
set_option linter.unusedSimpArgs false
def l13_sameSteps.l0 : Nat → List (S24) → List (S26) → Int → Option (Bool)
 | 0, _, _, _ => none
 | k + 1, x0, x1, x5 => if x5 < (x0.length : Int) then (if 0 ≤ x5 then (if x5 < (x1.length : Int) then (if ((rd_T24 x0 x5).f0) = ((rd_T26 x1 x5).f0) then (if ((rd_T24 x0 x5).f1) = ((rd_T26 x1 x5).f1) then (if ((rd_T24 x0 x5).f2) = ((rd_T26 x1 x5).f2) then (if ((rd_T24 x0 x5).f3) = ((rd_T26 x1 x5).f3) then (if ((rd_T24 x0 x5).f4).toList = ((rd_T26 x1 x5).f4).toList then (l13_sameSteps.l0 k x0 x1 (wrap64 (x5 + 1))) else (none)) else (none)) else (none)) else (none)) else (none)) else (none)) else (none)) else (some true)
def l13_sameSteps.f (k : Nat) (l0 : List (S24)) (l1 : List (S26)) : Option (Bool) := if (l0.length : Int) = (l1.length : Int) then (l13_sameSteps.l0 k l0 l1 0) else (none)
theorem l13_sameSteps.mono_l : ∀ k, (∀ y0 y1 y2, LeO (l13_sameSteps.l0 k y0 y1 y2) (l13_sameSteps.l0 (k + 1) y0 y1 y2))
 | 0 => fun _ _ _ r h => by simp [l13_sameSteps.l0] at h
 | k + 1 => by
  have ih0 := l13_sameSteps.mono_l k
  ·intro y0 y1 y2
   unfold l13_sameSteps.l0
   repeat' first
   | (with_reducible exact ih0 _ _ _)
   | (with_reducible exact LeO.refl _)
   | (with_reducible exact LeO.none _)
   | (with_reducible refine LeO.ite ?_ ?_)
   | (with_reducible refine LeO.bind ?_ (fun _ => ?_))
   | exact ih0 _ _ _
   | exact LeO.none _
   | refine LeO.ite ?_ ?_
   | refine LeO.bind ?_ (fun _ => ?_)
theorem l13_sameSteps.mono : ∀ a0 a1 k, LeO (l13_sameSteps.f k a0 a1) (l13_sameSteps.f (k + 1) a0 a1) := by
 intro a0 a1 k
 have ih0 := l13_sameSteps.mono_l k
 unfold l13_sameSteps.f
 repeat' first
   | (with_reducible exact ih0 _ _ _)
   | (with_reducible exact LeO.refl _)
   | (with_reducible exact LeO.none _)
   | (with_reducible refine LeO.ite ?_ ?_)
   | (with_reducible refine LeO.bind ?_ (fun _ => ?_))
   | exact ih0 _ _ _
   | exact LeO.none _
   | refine LeO.ite ?_ ?_
   | refine LeO.bind ?_ (fun _ => ?_)
set_option maxHeartbeats 8000000 in
set_option maxRecDepth 100000 in
theorem l13_sameSteps.calls (k : Nat) (A0 : Option Addr) (c0 : Nat) (l0 : List (S24)) (A1 : Option Addr) (c1 : Nat) (l1 : List (S26)) (r : Bool) (w : World) (hr0 : Kd.C k24 w A0 l0.length l0) (hc0 : l0.length ≤ c0) (hr1 : Kd.C k26 w A1 l1.length l1) (hc1 : l1.length ≤ c1) (h : l13_sameSteps.f k l0 l1 = some r) :
  Calls Tryd.prog 35 #[.slice A0 l0.length c0, .slice A1 l1.length c1] w fun e w' => e = .returned (.bool r) ∧ Below w.heap.size w w' := by
 have hu24 := Tryd.underlying24
 have hu26 := Tryd.underlying26
 have HR0 := Ax.mk hr0
 have HC0 := Ax.mk hc0
 clear hr0 hc0
 have HR1 := Ax.mk hr1
 have HC1 := Ax.mk hc1
 clear hr1 hc1
 have HB := Ax.mk (Below.refl w.heap.size w)
 have H : (if (l0.length : Int) = (l1.length : Int) then (l13_sameSteps.l0 k l0 l1 0) else (none)) = some r := h
 clear h
 by_cases c3 : (l0.length : Int) = (l1.length : Int)
 ·rw [if_pos c3] at H
  have c3b0 : ((l0.length : Int) == (l1.length : Int)) = true := beq_iff_eq.mpr c3
  have c3b1 : ((l0.length : Int) != (l1.length : Int)) = false := bne_eq_false_iff_eq.mpr c3
  have c3b2 : (l0.length == l1.length) = true := by first | simpa using c3 | (simp at c3 ⊢; omega)
  clear c3
  have H' := Ax.mk H
  clear H
  go_enter Tryd.func35, Tryd.ntmps35
  go_wp2
  go_loopg [5] k (fun kq v5 w' => ∃ (x5_1 : Int), v5 = .int .i64 x5_1 ∧ Ax (l13_sameSteps.l0 kq l0 l1 x5_1 = some r) ∧ Ax (kq ≤ k) ∧ Ax (Below w.heap.size w w'))
  case atStart => exact ⟨(0), (by first | rfl | (simp; done) | (simp [*]; done)), H', ⟨Nat.le_refl _⟩, ⟨bA⟩⟩
  case round =>
   clear H'
   try clear c1
   try clear p2
   try clear c3
   try clear c3b0
   try clear c3b1
   try clear c3b2
   obtain ⟨x5_1, rfl, HA, HK1, HB⟩ := hrel
   cases gk with
   | zero => exact absurd HA.out (by simp [l13_sameSteps.l0])
   | succ k1 =>
    have H := HA.out
    clear HA
    simp only [l13_sameSteps.l0] at H
    by_cases c4 : x5_1 < (l0.length : Int)
    ·rw [if_pos c4] at H
     have c4b0 : decide (x5_1 < (l0.length : Int)) = true := decide_eq_true c4
     clear c4
     by_cases c5 : 0 ≤ x5_1
     ·rw [if_pos c5] at H
      have c5b0 : decide (0 ≤ x5_1) = true := decide_eq_true c5
      clear c5
      by_cases c6 : x5_1 < (l1.length : Int)
      ·rw [if_pos c6] at H
       have c6b0 : decide (x5_1 < (l1.length : Int)) = true := decide_eq_true c6
       clear c6
       by_cases c7 : ((rd_T24 l0 x5_1).f0) = ((rd_T26 l1 x5_1).f0)
       ·rw [if_pos c7] at H
        have c7b0 : (((rd_T24 l0 x5_1).f0) == ((rd_T26 l1 x5_1).f0)) = true := beq_iff_eq.mpr c7
        have c7b1 : (((rd_T24 l0 x5_1).f0) != ((rd_T26 l1 x5_1).f0)) = false := bne_eq_false_iff_eq.mpr c7
        clear c7
        by_cases c8 : ((rd_T24 l0 x5_1).f1) = ((rd_T26 l1 x5_1).f1)
        ·rw [if_pos c8] at H
         have c8b0 : (((rd_T24 l0 x5_1).f1) == ((rd_T26 l1 x5_1).f1)) = true := beq_iff_eq.mpr c8
         have c8b1 : (((rd_T24 l0 x5_1).f1) != ((rd_T26 l1 x5_1).f1)) = false := bne_eq_false_iff_eq.mpr c8
         clear c8
         by_cases c9 : ((rd_T24 l0 x5_1).f2) = ((rd_T26 l1 x5_1).f2)
         ·rw [if_pos c9] at H
          have c9b0 : (((rd_T24 l0 x5_1).f2) == ((rd_T26 l1 x5_1).f2)) = true := beq_iff_eq.mpr c9
          have c9b1 : (((rd_T24 l0 x5_1).f2) != ((rd_T26 l1 x5_1).f2)) = false := bne_eq_false_iff_eq.mpr c9
          clear c9
          by_cases c10 : ((rd_T24 l0 x5_1).f3) = ((rd_T26 l1 x5_1).f3)
          ·rw [if_pos c10] at H
           have c10b0 : (((rd_T24 l0 x5_1).f3) == ((rd_T26 l1 x5_1).f3)) = true := beq_iff_eq.mpr c10
           have c10b1 : (((rd_T24 l0 x5_1).f3) != ((rd_T26 l1 x5_1).f3)) = false := bne_eq_false_iff_eq.mpr c10
           clear c10
           by_cases c11 : ((rd_T24 l0 x5_1).f4).toList = ((rd_T26 l1 x5_1).f4).toList
           ·rw [if_pos c11] at H
            have c11b0 : (((rd_T24 l0 x5_1).f4).toList == ((rd_T26 l1 x5_1).f4).toList) = true := beq_iff_eq.mpr c11
            have c11b1 : (((rd_T24 l0 x5_1).f4).toList != ((rd_T26 l1 x5_1).f4).toList) = false := bne_eq_false_iff_eq.mpr c11
            clear c11
            have H' := Ax.mk H
            clear H
            have p210 : 0 ≤ (x5_1 : Int) := of_decide_eq_true (by first | (with_reducible assumption) | assumption)
            have q210 : x5_1 < (l0.length : Int) := of_decide_eq_true (by first | (with_reducible assumption) | assumption)
            obtain ⟨ad210, e210, hx210_0, hx210_1, hx210_2, hx210_3, hx210_4⟩ := at_T24 HR0.out x5_1 p210 q210
            cases e210
            replace hx210_0 := (HB.out.cell (World.block_lt_of_cell? w _ hx210_0)).trans hx210_0
            replace hx210_1 := (HB.out.cell (World.block_lt_of_cell? w _ hx210_1)).trans hx210_1
            replace hx210_2 := (HB.out.cell (World.block_lt_of_cell? w _ hx210_2)).trans hx210_2
            replace hx210_3 := (HB.out.cell (World.block_lt_of_cell? w _ hx210_3)).trans hx210_3
            replace hx210_4 := (HB.out.cell (World.block_lt_of_cell? w _ hx210_4)).trans hx210_4
            replace p210 := eq_true p210
            replace q210 := eq_true q210
            go_wp2_with (first | ((with_reducible refine gate_dst (N := 6) rfl ?_); refine box_event ?hg (N := 6) ?hd (cs := #[.int .i64 0, .int .i64 0, .int .i64 0, .int .u64 0, .string (⟨#[]⟩ : ByteArray)]) (t := 24) ?hr ?_; (case hd => rfl); (case hg => rfl); (case hr => first | (go_simp; done) | (go_simp; rfl)); intro gb211 hg w12 hbox hb; have n0_ := Ax.mk (bP bA hb); have n1_ := Ax.mk (hbox); have n2_ := Ax.mk ((ge_new hg : w.heap.size ≤ gb211)); have n3_ := n2_; clear HB; have HB := n0_; have BK211 := n1_; have GW211 := n2_; have GE211 := n3_; clear n0_ n1_ n2_ n3_; clear hb hbox hg; have hcz13_0 : w12.cell? ⟨gb211, 0, none⟩ = some (.int .i64 0) := (bC BK211.out 0).trans rfl; have hcz13_1 : w12.cell? ⟨gb211, 1, none⟩ = some (.int .i64 0) := (bC BK211.out 1).trans rfl; have hcz13_2 : w12.cell? ⟨gb211, 2, none⟩ = some (.int .i64 0) := (bC BK211.out 2).trans rfl; have hcz13_3 : w12.cell? ⟨gb211, 3, none⟩ = some (.int .u64 0) := (bC BK211.out 3).trans rfl; have hcz13_4 : w12.cell? ⟨gb211, 4, none⟩ = some (.string (⟨#[]⟩ : ByteArray)) := (bC BK211.out 4).trans rfl; have hfz13_0 := bF BK211.out 0; have hfz13_1 := bF BK211.out 1; have hfz13_2 := bF BK211.out 2; have hfz13_3 := bF BK211.out 3; have hfz13_4 := bF BK211.out 4; have p212 : 0 ≤ (x5_1 : Int) := of_decide_eq_true (by first | (with_reducible assumption) | assumption); have q212 : x5_1 < (l1.length : Int) := of_decide_eq_true (by first | (with_reducible assumption) | assumption); obtain ⟨ad212, e212, hx212_0, hx212_1, hx212_2, hx212_3, hx212_4⟩ := at_T26 HR1.out x5_1 p212 q212; cases e212; have hn212_0 : ad212.block ≠ gb211 := Nat.ne_of_lt (Nat.lt_of_lt_of_le (by have := World.block_lt_of_cell? _ _ hx212_0; first | rwa [add_block] at this | exact this) GW211.out); have hn212_1 : ad212.block ≠ gb211 := Nat.ne_of_lt (Nat.lt_of_lt_of_le (by have := World.block_lt_of_cell? _ _ hx212_0; first | rwa [add_block] at this | exact this) GW211.out); have hn212_2 : ad212.block ≠ gb211 := Nat.ne_of_lt (Nat.lt_of_lt_of_le (by have := World.block_lt_of_cell? _ _ hx212_0; first | rwa [add_block] at this | exact this) GW211.out); have hn212_3 : ad212.block ≠ gb211 := Nat.ne_of_lt (Nat.lt_of_lt_of_le (by have := World.block_lt_of_cell? _ _ hx212_0; first | rwa [add_block] at this | exact this) GW211.out); have hn212_4 : ad212.block ≠ gb211 := Nat.ne_of_lt (Nat.lt_of_lt_of_le (by have := World.block_lt_of_cell? _ _ hx212_0; first | rwa [add_block] at this | exact this) GW211.out); replace hx212_0 := (HB.out.cell (World.block_lt_of_cell? w _ hx212_0)).trans hx212_0; replace hx212_1 := (HB.out.cell (World.block_lt_of_cell? w _ hx212_1)).trans hx212_1; replace hx212_2 := (HB.out.cell (World.block_lt_of_cell? w _ hx212_2)).trans hx212_2; replace hx212_3 := (HB.out.cell (World.block_lt_of_cell? w _ hx212_3)).trans hx212_3; replace hx212_4 := (HB.out.cell (World.block_lt_of_cell? w _ hx212_4)).trans hx212_4; replace hx212_0 := (cell_far (p := ⟨gb211, 0, none⟩) (by first | (rw [add_block]; exact hn212_0) | (show (Addr.add _ _).block ≠ _; rw [add_block]; exact hn212_0) | exact hn212_0) (.int .i64 ((rd_T24 l0 x5_1).f0))).trans hx212_0; replace hx212_1 := (cell_far (p := ⟨gb211, 0, none⟩) (by first | (rw [add_block]; exact hn212_0) | (show (Addr.add _ _).block ≠ _; rw [add_block]; exact hn212_0) | exact hn212_0) (.int .i64 ((rd_T24 l0 x5_1).f0))).trans hx212_1; replace hx212_2 := (cell_far (p := ⟨gb211, 0, none⟩) (by first | (rw [add_block]; exact hn212_0) | (show (Addr.add _ _).block ≠ _; rw [add_block]; exact hn212_0) | exact hn212_0) (.int .i64 ((rd_T24 l0 x5_1).f0))).trans hx212_2; replace hx212_3 := (cell_far (p := ⟨gb211, 0, none⟩) (by first | (rw [add_block]; exact hn212_0) | (show (Addr.add _ _).block ≠ _; rw [add_block]; exact hn212_0) | exact hn212_0) (.int .i64 ((rd_T24 l0 x5_1).f0))).trans hx212_3; replace hx212_4 := (cell_far (p := ⟨gb211, 0, none⟩) (by first | (rw [add_block]; exact hn212_0) | (show (Addr.add _ _).block ≠ _; rw [add_block]; exact hn212_0) | exact hn212_0) (.int .i64 ((rd_T24 l0 x5_1).f0))).trans hx212_4; replace hx212_0 := (cell_far (p := ⟨gb211, 1, none⟩) (by first | (rw [add_block]; exact hn212_1) | (show (Addr.add _ _).block ≠ _; rw [add_block]; exact hn212_1) | exact hn212_1) (.int .i64 ((rd_T24 l0 x5_1).f1))).trans hx212_0; replace hx212_1 := (cell_far (p := ⟨gb211, 1, none⟩) (by first | (rw [add_block]; exact hn212_1) | (show (Addr.add _ _).block ≠ _; rw [add_block]; exact hn212_1) | exact hn212_1) (.int .i64 ((rd_T24 l0 x5_1).f1))).trans hx212_1; replace hx212_2 := (cell_far (p := ⟨gb211, 1, none⟩) (by first | (rw [add_block]; exact hn212_1) | (show (Addr.add _ _).block ≠ _; rw [add_block]; exact hn212_1) | exact hn212_1) (.int .i64 ((rd_T24 l0 x5_1).f1))).trans hx212_2; replace hx212_3 := (cell_far (p := ⟨gb211, 1, none⟩) (by first | (rw [add_block]; exact hn212_1) | (show (Addr.add _ _).block ≠ _; rw [add_block]; exact hn212_1) | exact hn212_1) (.int .i64 ((rd_T24 l0 x5_1).f1))).trans hx212_3; replace hx212_4 := (cell_far (p := ⟨gb211, 1, none⟩) (by first | (rw [add_block]; exact hn212_1) | (show (Addr.add _ _).block ≠ _; rw [add_block]; exact hn212_1) | exact hn212_1) (.int .i64 ((rd_T24 l0 x5_1).f1))).trans hx212_4; replace hx212_0 := (cell_far (p := ⟨gb211, 2, none⟩) (by first | (rw [add_block]; exact hn212_2) | (show (Addr.add _ _).block ≠ _; rw [add_block]; exact hn212_2) | exact hn212_2) (.int .i64 ((rd_T24 l0 x5_1).f2))).trans hx212_0; replace hx212_1 := (cell_far (p := ⟨gb211, 2, none⟩) (by first | (rw [add_block]; exact hn212_2) | (show (Addr.add _ _).block ≠ _; rw [add_block]; exact hn212_2) | exact hn212_2) (.int .i64 ((rd_T24 l0 x5_1).f2))).trans hx212_1; replace hx212_2 := (cell_far (p := ⟨gb211, 2, none⟩) (by first | (rw [add_block]; exact hn212_2) | (show (Addr.add _ _).block ≠ _; rw [add_block]; exact hn212_2) | exact hn212_2) (.int .i64 ((rd_T24 l0 x5_1).f2))).trans hx212_2; replace hx212_3 := (cell_far (p := ⟨gb211, 2, none⟩) (by first | (rw [add_block]; exact hn212_2) | (show (Addr.add _ _).block ≠ _; rw [add_block]; exact hn212_2) | exact hn212_2) (.int .i64 ((rd_T24 l0 x5_1).f2))).trans hx212_3; replace hx212_4 := (cell_far (p := ⟨gb211, 2, none⟩) (by first | (rw [add_block]; exact hn212_2) | (show (Addr.add _ _).block ≠ _; rw [add_block]; exact hn212_2) | exact hn212_2) (.int .i64 ((rd_T24 l0 x5_1).f2))).trans hx212_4; replace hx212_0 := (cell_far (p := ⟨gb211, 3, none⟩) (by first | (rw [add_block]; exact hn212_3) | (show (Addr.add _ _).block ≠ _; rw [add_block]; exact hn212_3) | exact hn212_3) (.int .u64 ((rd_T24 l0 x5_1).f3))).trans hx212_0; replace hx212_1 := (cell_far (p := ⟨gb211, 3, none⟩) (by first | (rw [add_block]; exact hn212_3) | (show (Addr.add _ _).block ≠ _; rw [add_block]; exact hn212_3) | exact hn212_3) (.int .u64 ((rd_T24 l0 x5_1).f3))).trans hx212_1; replace hx212_2 := (cell_far (p := ⟨gb211, 3, none⟩) (by first | (rw [add_block]; exact hn212_3) | (show (Addr.add _ _).block ≠ _; rw [add_block]; exact hn212_3) | exact hn212_3) (.int .u64 ((rd_T24 l0 x5_1).f3))).trans hx212_2; replace hx212_3 := (cell_far (p := ⟨gb211, 3, none⟩) (by first | (rw [add_block]; exact hn212_3) | (show (Addr.add _ _).block ≠ _; rw [add_block]; exact hn212_3) | exact hn212_3) (.int .u64 ((rd_T24 l0 x5_1).f3))).trans hx212_3; replace hx212_4 := (cell_far (p := ⟨gb211, 3, none⟩) (by first | (rw [add_block]; exact hn212_3) | (show (Addr.add _ _).block ≠ _; rw [add_block]; exact hn212_3) | exact hn212_3) (.int .u64 ((rd_T24 l0 x5_1).f3))).trans hx212_4; replace hx212_0 := (cell_far (p := ⟨gb211, 4, none⟩) (by first | (rw [add_block]; exact hn212_4) | (show (Addr.add _ _).block ≠ _; rw [add_block]; exact hn212_4) | exact hn212_4) (.string ((rd_T24 l0 x5_1).f4))).trans hx212_0; replace hx212_1 := (cell_far (p := ⟨gb211, 4, none⟩) (by first | (rw [add_block]; exact hn212_4) | (show (Addr.add _ _).block ≠ _; rw [add_block]; exact hn212_4) | exact hn212_4) (.string ((rd_T24 l0 x5_1).f4))).trans hx212_1; replace hx212_2 := (cell_far (p := ⟨gb211, 4, none⟩) (by first | (rw [add_block]; exact hn212_4) | (show (Addr.add _ _).block ≠ _; rw [add_block]; exact hn212_4) | exact hn212_4) (.string ((rd_T24 l0 x5_1).f4))).trans hx212_2; replace hx212_3 := (cell_far (p := ⟨gb211, 4, none⟩) (by first | (rw [add_block]; exact hn212_4) | (show (Addr.add _ _).block ≠ _; rw [add_block]; exact hn212_4) | exact hn212_4) (.string ((rd_T24 l0 x5_1).f4))).trans hx212_3; replace hx212_4 := (cell_far (p := ⟨gb211, 4, none⟩) (by first | (rw [add_block]; exact hn212_4) | (show (Addr.add _ _).block ≠ _; rw [add_block]; exact hn212_4) | exact hn212_4) (.string ((rd_T24 l0 x5_1).f4))).trans hx212_4; clear hn212_0; clear hn212_1; clear hn212_2; clear hn212_3; clear hn212_4; replace p212 := eq_true p212; replace q212 := eq_true q212) | ((with_reducible refine gate_dst (N := 7) rfl ?_); refine box_event ?hg (N := 7) ?hd (cs := #[.int .i64 0, .int .i64 0, .int .i64 0, .int .u64 0, .string (⟨#[]⟩ : ByteArray)]) (t := 26) ?hr ?_; (case hd => rfl); (case hg => rfl); (case hr => first | (go_simp; done) | (go_simp; rfl)); intro gb213 hg w14 hbox hb; have n0_ := Ax.mk (bB (g := gb211) (o := .cells #[.int .i64 ((rd_T24 l0 x5_1).f0), .int .i64 ((rd_T24 l0 x5_1).f1), .int .i64 ((rd_T24 l0 x5_1).f2), .int .u64 ((rd_T24 l0 x5_1).f3), .string ((rd_T24 l0 x5_1).f4)] 24 (0, 0)) (by refine bT ?_; refine bU (cs := #[.int .i64 ((rd_T24 l0 x5_1).f0), .int .i64 ((rd_T24 l0 x5_1).f1), .int .i64 ((rd_T24 l0 x5_1).f2), .int .u64 ((rd_T24 l0 x5_1).f3), .string (⟨#[]⟩ : ByteArray)]) ?_ 4 _ rfl; refine bT ?_; refine bU (cs := #[.int .i64 ((rd_T24 l0 x5_1).f0), .int .i64 ((rd_T24 l0 x5_1).f1), .int .i64 ((rd_T24 l0 x5_1).f2), .int .u64 0, .string (⟨#[]⟩ : ByteArray)]) ?_ 3 _ rfl; refine bT ?_; refine bU (cs := #[.int .i64 ((rd_T24 l0 x5_1).f0), .int .i64 ((rd_T24 l0 x5_1).f1), .int .i64 0, .int .u64 0, .string (⟨#[]⟩ : ByteArray)]) ?_ 2 _ rfl; refine bT ?_; refine bU (cs := #[.int .i64 ((rd_T24 l0 x5_1).f0), .int .i64 0, .int .i64 0, .int .u64 0, .string (⟨#[]⟩ : ByteArray)]) ?_ 1 _ rfl; refine bT ?_; refine bU (cs := #[.int .i64 0, .int .i64 0, .int .i64 0, .int .u64 0, .string (⟨#[]⟩ : ByteArray)]) ?_ 0 _ rfl; exact bT BK211.out) hb); have n1_ := Ax.mk (bP bA hb); have n2_ := Ax.mk (hbox); have n3_ := Ax.mk ((ge_new hg : w.heap.size ≤ gb213)); have n4_ := n3_; have n5_ := Ax.mk ((by rw [hg]; exact Nat.ne_of_lt (bL (g := gb211) (o := .cells #[.int .i64 ((rd_T24 l0 x5_1).f0), .int .i64 ((rd_T24 l0 x5_1).f1), .int .i64 ((rd_T24 l0 x5_1).f2), .int .u64 ((rd_T24 l0 x5_1).f3), .string ((rd_T24 l0 x5_1).f4)] 24 (0, 0)) (by refine bT ?_; refine bU (cs := #[.int .i64 ((rd_T24 l0 x5_1).f0), .int .i64 ((rd_T24 l0 x5_1).f1), .int .i64 ((rd_T24 l0 x5_1).f2), .int .u64 ((rd_T24 l0 x5_1).f3), .string (⟨#[]⟩ : ByteArray)]) ?_ 4 _ rfl; refine bT ?_; refine bU (cs := #[.int .i64 ((rd_T24 l0 x5_1).f0), .int .i64 ((rd_T24 l0 x5_1).f1), .int .i64 ((rd_T24 l0 x5_1).f2), .int .u64 0, .string (⟨#[]⟩ : ByteArray)]) ?_ 3 _ rfl; refine bT ?_; refine bU (cs := #[.int .i64 ((rd_T24 l0 x5_1).f0), .int .i64 ((rd_T24 l0 x5_1).f1), .int .i64 0, .int .u64 0, .string (⟨#[]⟩ : ByteArray)]) ?_ 2 _ rfl; refine bT ?_; refine bU (cs := #[.int .i64 ((rd_T24 l0 x5_1).f0), .int .i64 0, .int .i64 0, .int .u64 0, .string (⟨#[]⟩ : ByteArray)]) ?_ 1 _ rfl; refine bT ?_; refine bU (cs := #[.int .i64 0, .int .i64 0, .int .i64 0, .int .u64 0, .string (⟨#[]⟩ : ByteArray)]) ?_ 0 _ rfl; exact bT BK211.out)) : gb211 ≠ gb213)); have n6_ := Ax.mk ((by rw [hg]; exact Nat.ne_of_gt (bL (g := gb211) (o := .cells #[.int .i64 ((rd_T24 l0 x5_1).f0), .int .i64 ((rd_T24 l0 x5_1).f1), .int .i64 ((rd_T24 l0 x5_1).f2), .int .u64 ((rd_T24 l0 x5_1).f3), .string ((rd_T24 l0 x5_1).f4)] 24 (0, 0)) (by refine bT ?_; refine bU (cs := #[.int .i64 ((rd_T24 l0 x5_1).f0), .int .i64 ((rd_T24 l0 x5_1).f1), .int .i64 ((rd_T24 l0 x5_1).f2), .int .u64 ((rd_T24 l0 x5_1).f3), .string (⟨#[]⟩ : ByteArray)]) ?_ 4 _ rfl; refine bT ?_; refine bU (cs := #[.int .i64 ((rd_T24 l0 x5_1).f0), .int .i64 ((rd_T24 l0 x5_1).f1), .int .i64 ((rd_T24 l0 x5_1).f2), .int .u64 0, .string (⟨#[]⟩ : ByteArray)]) ?_ 3 _ rfl; refine bT ?_; refine bU (cs := #[.int .i64 ((rd_T24 l0 x5_1).f0), .int .i64 ((rd_T24 l0 x5_1).f1), .int .i64 0, .int .u64 0, .string (⟨#[]⟩ : ByteArray)]) ?_ 2 _ rfl; refine bT ?_; refine bU (cs := #[.int .i64 ((rd_T24 l0 x5_1).f0), .int .i64 0, .int .i64 0, .int .u64 0, .string (⟨#[]⟩ : ByteArray)]) ?_ 1 _ rfl; refine bT ?_; refine bU (cs := #[.int .i64 0, .int .i64 0, .int .i64 0, .int .u64 0, .string (⟨#[]⟩ : ByteArray)]) ?_ 0 _ rfl; exact bT BK211.out)) : gb213 ≠ gb211)); clear BK211; clear HB; have BK211 := n0_; have HB := n1_; have BK213 := n2_; have GW213 := n3_; have GE213 := n4_; have NB211_213 := n5_; have NB213_211 := n6_; clear n0_ n1_ n2_ n3_ n4_ n5_ n6_; clear hb hbox hg; have hnb15 := NB213_211.out; have hnc15 := NB211_213.out; have hcz16_0 : w14.cell? ⟨gb213, 0, none⟩ = some (.int .i64 0) := (bC BK213.out 0).trans rfl; have hcz16_1 : w14.cell? ⟨gb213, 1, none⟩ = some (.int .i64 0) := (bC BK213.out 1).trans rfl; have hcz16_2 : w14.cell? ⟨gb213, 2, none⟩ = some (.int .i64 0) := (bC BK213.out 2).trans rfl; have hcz16_3 : w14.cell? ⟨gb213, 3, none⟩ = some (.int .u64 0) := (bC BK213.out 3).trans rfl; have hcz16_4 : w14.cell? ⟨gb213, 4, none⟩ = some (.string (⟨#[]⟩ : ByteArray)) := (bC BK213.out 4).trans rfl; have hfz16_0 := bF BK213.out 0; have hfz16_1 := bF BK213.out 1; have hfz16_2 := bF BK213.out 2; have hfz16_3 := bF BK213.out 3; have hfz16_4 := bF BK213.out 4; have hcz17_0 : w14.cell? ⟨gb211, 0, none⟩ = some (.int .i64 ((rd_T24 l0 x5_1).f0)) := (bC BK211.out 0).trans rfl; have hcz17_1 : w14.cell? ⟨gb211, 1, none⟩ = some (.int .i64 ((rd_T24 l0 x5_1).f1)) := (bC BK211.out 1).trans rfl; have hcz17_2 : w14.cell? ⟨gb211, 2, none⟩ = some (.int .i64 ((rd_T24 l0 x5_1).f2)) := (bC BK211.out 2).trans rfl; have hcz17_3 : w14.cell? ⟨gb211, 3, none⟩ = some (.int .u64 ((rd_T24 l0 x5_1).f3)) := (bC BK211.out 3).trans rfl; have hcz17_4 : w14.cell? ⟨gb211, 4, none⟩ = some (.string ((rd_T24 l0 x5_1).f4)) := (bC BK211.out 4).trans rfl; have hfz17_0 := bF BK211.out 0; have hfz17_1 := bF BK211.out 1; have hfz17_2 := bF BK211.out 2; have hfz17_3 := bF BK211.out 3; have hfz17_4 := bF BK211.out 4))
            go_roundg k1
            case measure => have := HK1.out; omega
            case rel => exact ⟨(wrap64 (x5_1 + 1)), (by first | rfl | (simp; done) | (simp [*]; done)), H', ⟨by have := HK1.out; omega⟩, ⟨bA⟩⟩
           ·rw [if_neg c11] at H
            exact absurd H (by simp)
          ·rw [if_neg c10] at H
           exact absurd H (by simp)
         ·rw [if_neg c9] at H
          exact absurd H (by simp)
        ·rw [if_neg c8] at H
         exact absurd H (by simp)
       ·rw [if_neg c7] at H
        exact absurd H (by simp)
      ·rw [if_neg c6] at H
       exact absurd H (by simp)
     ·rw [if_neg c5] at H
      exact absurd H (by simp)
    ·rw [if_neg c4] at H
     have c4b0 : decide (x5_1 < (l0.length : Int)) = false := decide_eq_false c4
     clear c4
     obtain rfl := Option.some.inj H
     go_wp2
     go_ret
     exact ⟨by first | rfl | (simp [errW_none, errW_some] <;> rfl) | (simp [*, errW_none, errW_some] <;> rfl), bA⟩
 ·rw [if_neg c3] at H
  exact absurd H (by simp)
end Go.Proofs.YtboommbclbjlnaaDoor.Fn
end
section
namespace Go.Proofs.YtboommbclbjlnaaDoor.Fn
open Go.RowKit Go.Proofs.YtboommbclbjlnaaDoorW.PrintWords Go.Proofs.YtboommbclbjlnaaDoorW.PrintLast Go.Proofs.YtboommbclbjlnaaDoorW.PrintMore Go.Proofs.YtboommbclbjlnaaDoor.Lf
open List (setIfInBounds_toArray set_cons_zero set_cons_succ)
attribute [local go_sem] max2_int min2_int max_two min_two max_three min_three max_four min_four   -- for this text's walks alone
set_option linter.unusedVariables false
set_option linter.unusedSimpArgs false
mutual
def l13_same.j0 : Nat → Bool → Int → List (S44) → ByteArray → Int → List (S46) → ByteArray → Option (Bool)
 | 0, _, _, _, _, _, _, _ => none
 | k + 1, x26, x215000, x215001, x215002, x216000, x216001, x216002 => if x26 = true then (none) else (l13_same.l0 k 0 x215000 x215001 x215002 x216000 x216001 x216002)
def l13_same.l0 : Nat → Int → Int → List (S44) → ByteArray → Int → List (S46) → ByteArray → Option (Bool)
 | 0, _, _, _, _, _, _, _ => none
 | k + 1, x5, x215000, x215001, x215002, x216000, x216001, x216002 => if x5 < (x215001.length : Int) then (if 0 ≤ x5 then (if x5 < (x216001.length : Int) then (if ((rd_T44 x215001 x5).f0) = ((rd_T46 x216001 x5).f0) then ((l13_sameSteps.f k ((rd_T44 x215001 x5).f1) ((rd_T46 x216001 x5).f1)).bind fun t220 => (if t220 = true then (l13_same.l0 k (wrap64 (x5 + 1)) x215000 x215001 x215002 x216000 x216001 x216002) else (none))) else (none)) else (none)) else (none)) else (some true)
end
def l13_same.f (k : Nat) (a0_0 : Int) (l0_1 : List (S44)) (a0_2 : ByteArray) (a1_0 : Int) (l1_1 : List (S46)) (a1_2 : ByteArray) : Option (Bool) := if a0_0 = a1_0 then (if a0_2.toList = a1_2.toList then (l13_same.j0 k ((l0_1.length : Int) != (l1_1.length : Int)) a0_0 l0_1 a0_2 a1_0 l1_1 a1_2) else (none)) else (none)
theorem l13_same.mono_l : ∀ k, (∀ y0 y1 y2 y3 y4 y5 y6, LeO (l13_same.j0 k y0 y1 y2 y3 y4 y5 y6) (l13_same.j0 (k + 1) y0 y1 y2 y3 y4 y5 y6)) ∧ (∀ y0 y1 y2 y3 y4 y5 y6, LeO (l13_same.l0 k y0 y1 y2 y3 y4 y5 y6) (l13_same.l0 (k + 1) y0 y1 y2 y3 y4 y5 y6))
 | 0 => ⟨fun _ _ _ _ _ _ _ r h => by simp [l13_same.j0] at h, fun _ _ _ _ _ _ _ r h => by simp [l13_same.l0] at h⟩
 | k + 1 => by
  obtain ⟨ih0, ih1⟩ := l13_same.mono_l k
  refine ⟨?_, ?_⟩
  ·intro y0 y1 y2 y3 y4 y5 y6
   unfold l13_same.j0
   repeat' first
   | (with_reducible exact ih0 _ _ _ _ _ _ _)
   | (with_reducible exact ih1 _ _ _ _ _ _ _)
   | (with_reducible exact l13_sameSteps.mono _ _ _)
   | (with_reducible exact LeO.refl _)
   | (with_reducible exact LeO.none _)
   | (with_reducible refine LeO.ite ?_ ?_)
   | (with_reducible refine LeO.bind ?_ (fun _ => ?_))
   | exact ih0 _ _ _ _ _ _ _
   | exact ih1 _ _ _ _ _ _ _
   | exact l13_sameSteps.mono _ _ _
   | exact LeO.none _
   | refine LeO.ite ?_ ?_
   | refine LeO.bind ?_ (fun _ => ?_)
  ·intro y0 y1 y2 y3 y4 y5 y6
   unfold l13_same.l0
   repeat' first
   | (with_reducible exact ih0 _ _ _ _ _ _ _)
   | (with_reducible exact ih1 _ _ _ _ _ _ _)
   | (with_reducible exact l13_sameSteps.mono _ _ _)
   | (with_reducible exact LeO.refl _)
   | (with_reducible exact LeO.none _)
   | (with_reducible refine LeO.ite ?_ ?_)
   | (with_reducible refine LeO.bind ?_ (fun _ => ?_))
   | exact ih0 _ _ _ _ _ _ _
   | exact ih1 _ _ _ _ _ _ _
   | exact l13_sameSteps.mono _ _ _
   | exact LeO.none _
   | refine LeO.ite ?_ ?_
   | refine LeO.bind ?_ (fun _ => ?_)
theorem l13_same.mono : ∀ a0 a1 a2 a3 a4 a5 k, LeO (l13_same.f k a0 a1 a2 a3 a4 a5) (l13_same.f (k + 1) a0 a1 a2 a3 a4 a5) := by
 intro a0 a1 a2 a3 a4 a5 k
 obtain ⟨ih0, ih1⟩ := l13_same.mono_l k
 unfold l13_same.f
 repeat' first
   | (with_reducible exact ih0 _ _ _ _ _ _ _)
   | (with_reducible exact ih1 _ _ _ _ _ _ _)
   | (with_reducible exact l13_sameSteps.mono _ _ _)
   | (with_reducible exact LeO.refl _)
   | (with_reducible exact LeO.none _)
   | (with_reducible refine LeO.ite ?_ ?_)
   | (with_reducible refine LeO.bind ?_ (fun _ => ?_))
   | exact ih0 _ _ _ _ _ _ _
   | exact ih1 _ _ _ _ _ _ _
   | exact l13_sameSteps.mono _ _ _
   | exact LeO.none _
   | refine LeO.ite ?_ ?_
   | refine LeO.bind ?_ (fun _ => ?_)
def l13_same.T6 : Bool × List (List Nat × List Nat) := (true, [([], []), ([0], [0]), ([], []), ([1, 2], [1, 2]), ([3], [3]), ([4], [4]), ([], []), ([6], [6]), ([], []), ([7, 8], [7, 8]), ([9], [9]), ([10], [10]), ([5, 11], [5, 11]), ([12], [12]), ([13], [13]), ([14, 13], [13, 14]), ([13], [13]), ([15, 16, 13], [13, 15, 16]), ([17, 13], [13, 17]), ([18, 13], [13, 18]), ([13], [13]), ([20, 13], [13, 20]), ([13], [13]), ([21, 22, 13], [13, 21, 22]), ([23, 13], [13, 23]), ([24, 13], [13, 24]), ([19, 25, 13, 13], [13, 19, 25]), ([26, 13], [13, 26]), ([13, 27], [13, 27])])
def l13_same.B6 : List Nat := [0, 1, 0, 7, 15, 31, 0, 64, 0, 448, 960, 1984, 4095, 8191, 16383, 32767, 16383, 131071, 262143, 524287, 16383, 1064959, 16383, 7356415, 15745023, 32522239, 67108863, 134217727, 268435455]
theorem l13_same.tab6 : rtab .any (opsOf Tryd.f41 6) = l13_same.T6 := by kernel_rfl
theorem l13_same.bits6 : waitsOk l13_same.T6.2 l13_same.B6 = true := by kernel_rfl
set_option maxHeartbeats 8000000 in
set_option maxRecDepth 100000 in
theorem l13_same.calls (k : Nat) (a0_0 : Int) (A0_1 : Option Addr) (c0_1 : Nat) (l0_1 : List (S44)) (a0_2 : ByteArray) (a1_0 : Int) (A1_1 : Option Addr) (c1_1 : Nat) (l1_1 : List (S46)) (a1_2 : ByteArray) (r : Bool) (w : World) (hr0_1 : Kd.C k44 w A0_1 l0_1.length l0_1) (hc0_1 : l0_1.length ≤ c0_1) (hr1_1 : Kd.C k46 w A1_1 l1_1.length l1_1) (hc1_1 : l1_1.length ≤ c1_1) (h : l13_same.f k a0_0 l0_1 a0_2 a1_0 l1_1 a1_2 = some r) :
  Calls Tryd.prog 41 #[.agg #[.int .u64 a0_0, .slice A0_1 l0_1.length c0_1, .string a0_2], .agg #[.int .u64 a1_0, .slice A1_1 l1_1.length c1_1, .string a1_2]] w fun e w' => e = .returned (.bool r) ∧ Below w.heap.size w w' := by
 have hu66 := Tryd.underlying66
 have hu68 := Tryd.underlying68
 have HR0_1 := Ax.mk hr0_1
 have HC0_1 := Ax.mk hc0_1
 clear hr0_1 hc0_1
 have HR1_1 := Ax.mk hr1_1
 have HC1_1 := Ax.mk hc1_1
 clear hr1_1 hc1_1
 have HB := Ax.mk (Below.refl w.heap.size w)
 have H : (if a0_0 = a1_0 then (if a0_2.toList = a1_2.toList then (l13_same.j0 k ((l0_1.length : Int) != (l1_1.length : Int)) a0_0 l0_1 a0_2 a1_0 l1_1 a1_2) else (none)) else (none)) = some r := h
 clear h
 have HC3 := Ax.mk H
 clear H
 go_enter Tryd.func41, Tryd.ntmps41
 go_upto_region 1 with (first | ((with_reducible refine gate_dst (N := 2) rfl ?_); (try (refine gate_guard (by rfl) ?_; dsimp only)); refine box_event ?hg (N := 2) ?hd (cs := #[.int .u64 a0_0, .slice A0_1 l0_1.length c0_1, .string a0_2]) (t := 66) ?hr ?_; (case hd => rfl); (case hg => rfl); (case hr => first | (go_simp; done) | (go_simp; rfl)); intro gb214 hg w4 hbox hb; have n0_ := Ax.mk (bP bA hb); have n1_ := Ax.mk (hbox); have n2_ := Ax.mk ((ge_new hg : w.heap.size ≤ gb214)); have n3_ := n2_; clear HB; have HB := n0_; have BK214 := n1_; have GW214 := n2_; have GE214 := n3_; clear n0_ n1_ n2_ n3_; clear hb hbox hg) | ((with_reducible refine gate_dst (N := 3) rfl ?_); (try (refine gate_guard (by rfl) ?_; dsimp only)); refine box_event ?hg (N := 3) ?hd (cs := #[.int .u64 a1_0, .slice A1_1 l1_1.length c1_1, .string a1_2]) (t := 68) ?hr ?_; (case hd => rfl); (case hg => rfl); (case hr => first | (go_simp; done) | (go_simp; rfl)); intro gb215 hg w5 hbox hb; have n0_ := Ax.mk (bB (bT BK214.out) hb); have n1_ := Ax.mk (bP bA hb); have n2_ := Ax.mk (hbox); have n3_ := Ax.mk ((ge_new hg : w.heap.size ≤ gb215)); have n4_ := n3_; have n5_ := Ax.mk ((ne_lt hg BK214.out : gb214 ≠ gb215)); have n6_ := Ax.mk ((ne_gt hg BK214.out : gb215 ≠ gb214)); clear BK214; clear HB; have BK214 := n0_; have HB := n1_; have BK215 := n2_; have GW215 := n3_; have GE215 := n4_; have NB214_215 := n5_; have NB215_214 := n6_; clear n0_ n1_ n2_ n3_ n4_ n5_ n6_; clear hb hbox hg))
 (try simp only [Act.put, setIfInBounds_toArray, set_cons_zero, set_cons_succ])
 go_cut [26] (fun v26 wc => ∃ (kq : Nat) (x26_2 : Bool), v26 = .bool x26_2 ∧ Ax (l13_same.j0 kq x26_2 a0_0 l0_1 a0_2 a1_0 l1_1 a1_2 = some r) ∧ Ax (kq ≤ k) ∧ Ax (wc.heap[gb214]? = some (.cells #[.int .u64 a0_0, (.slice A0_1 l0_1.length c0_1), .string a0_2] 66 (0, 0))) ∧ Ax (wc.heap[gb215]? = some (.cells #[.int .u64 a1_0, (.slice A1_1 l1_1.length c1_1), .string a1_2] 68 (0, 0))) ∧ Ax (Below w.heap.size w wc))
 case first =>
  have H := HC3.out
  clear HC3
  by_cases c6 : a0_0 = a1_0
  ·rw [if_pos c6] at H
   have c6b0 : (a0_0 == a1_0) = true := beq_iff_eq.mpr c6
   have c6b1 : (a0_0 != a1_0) = false := bne_eq_false_iff_eq.mpr c6
   clear c6
   (first | rw [c6b0] | (simp only [i64_w, i32_w]; rw [c6b0]) | skip)
   by_cases c7 : a0_2.toList = a1_2.toList
   ·rw [if_pos c7] at H
    have c7b0 : (a0_2.toList == a1_2.toList) = true := beq_iff_eq.mpr c7
    have c7b1 : (a0_2.toList != a1_2.toList) = false := bne_eq_false_iff_eq.mpr c7
    clear c7
    have H' := Ax.mk H
    clear H
    have hnb8 := NB214_215.out
    have hnc8 := NB215_214.out
    have hcz9_0 : w5.cell? ⟨gb214, 0, none⟩ = some (.int .u64 a0_0) := (bC BK214.out 0).trans rfl
    have hcz9_1 : w5.cell? ⟨gb214, 1, none⟩ = some (.slice A0_1 l0_1.length c0_1) := (bC BK214.out 1).trans rfl
    have hcz9_2 : w5.cell? ⟨gb214, 2, none⟩ = some (.string a0_2) := (bC BK214.out 2).trans rfl
    have hfz9_0 := bF BK214.out 0
    have hfz9_1 := bF BK214.out 1
    have hfz9_2 := bF BK214.out 2
    have hcz10_0 : w5.cell? ⟨gb215, 0, none⟩ = some (.int .u64 a1_0) := (bC BK215.out 0).trans rfl
    have hcz10_1 : w5.cell? ⟨gb215, 1, none⟩ = some (.slice A1_1 l1_1.length c1_1) := (bC BK215.out 1).trans rfl
    have hcz10_2 : w5.cell? ⟨gb215, 2, none⟩ = some (.string a1_2) := (bC BK215.out 2).trans rfl
    have hfz10_0 := bF BK215.out 0
    have hfz10_1 := bF BK215.out 1
    have hfz10_2 := bF BK215.out 2
    go_wp2
    go_meet
    case rel => exact ⟨_, (((l0_1.length : Int) != (l1_1.length : Int))), (by first | rfl | (simp; done) | (simp [*]; done)), H', ⟨by first | omega | exact Nat.le_refl _⟩, ⟨by refine bT ?_; exact BK214.out⟩, ⟨by refine bT ?_; exact BK215.out⟩, ⟨bA⟩⟩
   ·rw [if_neg c7] at H
    exact absurd H (by simp)
  ·rw [if_neg c6] at H
   exact absurd H (by simp)
 case rest =>
  clear HC3
  try clear c1
  try clear p2
  try clear c4
  try clear c6
  try clear c6b0
  try clear c6b1
  try clear c7
  try clear c7b0
  try clear c7b1
  try clear c8
  try clear hcz10_0
  try clear hcz10_1
  try clear hcz10_2
  try clear hcz9_0
  try clear hcz9_1
  try clear hcz9_2
  try clear hfz10_0
  try clear hfz10_1
  try clear hfz10_2
  try clear hfz9_0
  try clear hfz9_1
  try clear hfz9_2
  obtain ⟨kq, x26_2, rfl, HA, HJ2, BK214, BK215, HB⟩ := hcut
  cases kq with
  | zero => exact absurd HA.out (by simp [l13_same.j0])
  | succ kj2 =>
   have H := HA.out
   clear HA
   simp only [l13_same.j0] at H
   by_cases c11 : x26_2 = true
   ·subst c11
    have H1 : (none) = some r := by rw [if_pos rfl] at H; exact H
    clear H
    have H := H1
    clear H1
    exact absurd H (by simp)
   ·replace c11 := Bool.eq_false_iff.mpr c11
    subst c11
    have H1 : (l13_same.l0 kj2 0 a0_0 l0_1 a0_2 a1_0 l1_1 a1_2) = some r := by rw [if_neg (show ¬ (false = true) by decide)] at H; exact H
    clear H
    have H := H1
    clear H1
    have H' := Ax.mk H
    clear H
    go_wp2
    go_loopg [5] kj2 (fun kq v5 w' => ∃ (x5_2 : Int), v5 = .int .i64 x5_2 ∧ Ax (l13_same.l0 kq x5_2 a0_0 l0_1 a0_2 a1_0 l1_1 a1_2 = some r) ∧ Ax (kq ≤ kj2) ∧ Ax (w'.heap[gb214]? = some (.cells #[.int .u64 a0_0, (.slice A0_1 l0_1.length c0_1), .string a0_2] 66 (0, 0))) ∧ Ax (w'.heap[gb215]? = some (.cells #[.int .u64 a1_0, (.slice A1_1 l1_1.length c1_1), .string a1_2] 68 (0, 0))) ∧ Ax (Below w.heap.size w w'))
    case atStart => exact ⟨(0), (by first | rfl | (simp; done) | (simp [*]; done)), H', ⟨Nat.le_refl _⟩, ⟨by refine bT ?_; exact BK214.out⟩, ⟨by refine bT ?_; exact BK215.out⟩, ⟨bA⟩⟩
    case round =>
     clear H'
     try clear c1
     try clear p2
     try clear c4
     try clear c6
     try clear c6b0
     try clear c6b1
     try clear c7
     try clear c7b0
     try clear c7b1
     try clear c8
     try clear c11
     try clear hcz10_0
     try clear hcz10_1
     try clear hcz10_2
     try clear hcz9_0
     try clear hcz9_1
     try clear hcz9_2
     try clear hfz10_0
     try clear hfz10_1
     try clear hfz10_2
     try clear hfz9_0
     try clear hfz9_1
     try clear hfz9_2
     try clear p2
     obtain ⟨x5_2, rfl, HA, HK2, BK214, BK215, HB⟩ := hrel
     cases gk with
     | zero => exact absurd HA.out (by simp [l13_same.l0])
     | succ k2 =>
      have H := HA.out
      clear HA
      simp only [l13_same.l0] at H
      by_cases c12 : x5_2 < (l0_1.length : Int)
      ·rw [if_pos c12] at H
       have c12b0 : decide (x5_2 < (l0_1.length : Int)) = true := decide_eq_true c12
       clear c12
       by_cases c13 : 0 ≤ x5_2
       ·rw [if_pos c13] at H
        have c13b0 : decide (0 ≤ x5_2) = true := decide_eq_true c13
        clear c13
        by_cases c14 : x5_2 < (l1_1.length : Int)
        ·rw [if_pos c14] at H
         have c14b0 : decide (x5_2 < (l1_1.length : Int)) = true := decide_eq_true c14
         clear c14
         by_cases c15 : ((rd_T44 l0_1 x5_2).f0) = ((rd_T46 l1_1 x5_2).f0)
         ·rw [if_pos c15] at H
          have c15b0 : (((rd_T44 l0_1 x5_2).f0) == ((rd_T46 l1_1 x5_2).f0)) = true := beq_iff_eq.mpr c15
          have c15b1 : (((rd_T44 l0_1 x5_2).f0) != ((rd_T46 l1_1 x5_2).f0)) = false := bne_eq_false_iff_eq.mpr c15
          clear c15
          replace H := Option.bind_eq_some_iff.mp H
          obtain ⟨t220, A160, H⟩ := H
          replace H : (if t220 = true then (l13_same.l0 k2 (wrap64 (x5_2 + 1)) a0_0 l0_1 a0_2 a1_0 l1_1 a1_2) else (none)) = some r := H
          have A16 := Ax.mk A160
          clear A160
          by_cases c17 : t220 = true
          ·subst c17
           have H1 : (l13_same.l0 k2 (wrap64 (x5_2 + 1)) a0_0 l0_1 a0_2 a1_0 l1_1 a1_2) = some r := by rw [if_pos rfl] at H; exact H
           clear H
           have H := H1
           clear H1
           have H' := Ax.mk H
           clear H
           have hnb18 := NB214_215.out
           have hnc18 := NB215_214.out
           have hcz19_0 : wr.cell? ⟨gb214, 0, none⟩ = some (.int .u64 a0_0) := (bC BK214.out 0).trans rfl
           have hcz19_1 : wr.cell? ⟨gb214, 1, none⟩ = some (.slice A0_1 l0_1.length c0_1) := (bC BK214.out 1).trans rfl
           have hcz19_2 : wr.cell? ⟨gb214, 2, none⟩ = some (.string a0_2) := (bC BK214.out 2).trans rfl
           have hfz19_0 := bF BK214.out 0
           have hfz19_1 := bF BK214.out 1
           have hfz19_2 := bF BK214.out 2
           try go_wp2
           have n0_ := Ax.mk (blk_drew BK214.out)
           have n1_ := Ax.mk (blk_drew BK215.out)
           have n2_ := Ax.mk (below_drew1 HB.out)
           clear BK214
           clear BK215
           clear HB
           have BK214 := n0_
           have BK215 := n1_
           have HB := n2_
           clear n0_ n1_ n2_
           have p216 : 0 ≤ (x5_2 : Int) := of_decide_eq_true (by first | (with_reducible assumption) | assumption)
           have q216 : x5_2 < (l0_1.length : Int) := of_decide_eq_true (by first | (with_reducible assumption) | assumption)
           obtain ⟨ad216, A216_1, c216_1, e216, hx216_0, hx216_1, hl216_1, hi216_1⟩ := at_T44 HR0_1.out x5_2 p216 q216
           have hw216_1 := hx216_1
           have hw216_0 := hx216_0
           cases e216
           replace hx216_0 := (HB.out.cell (World.block_lt_of_cell? w _ hx216_0)).trans hx216_0
           replace hx216_1 := (HB.out.cell (World.block_lt_of_cell? w _ hx216_1)).trans hx216_1
           have HR216_1 := Ax.mk hi216_1
           have HC216_1 := Ax.mk hl216_1
           clear hi216_1 hl216_1
           replace p216 := eq_true p216
           replace q216 := eq_true q216
           have p217 : 0 ≤ (x5_2 : Int) := of_decide_eq_true (by first | (with_reducible assumption) | assumption)
           have q217 : x5_2 < (l1_1.length : Int) := of_decide_eq_true (by first | (with_reducible assumption) | assumption)
           obtain ⟨ad217, A217_1, c217_1, e217, hx217_0, hx217_1, hl217_1, hi217_1⟩ := at_T46 HR1_1.out x5_2 p217 q217
           have hw217_1 := hx217_1
           have hw217_0 := hx217_0
           cases e217
           replace hx217_0 := (HB.out.cell (World.block_lt_of_cell? w _ hx217_0)).trans hx217_0
           replace hx217_1 := (HB.out.cell (World.block_lt_of_cell? w _ hx217_1)).trans hx217_1
           have HR217_1 := Ax.mk hi217_1
           have HC217_1 := Ax.mk hl217_1
           clear hi217_1 hl217_1
           replace p217 := eq_true p217
           replace q217 := eq_true q217
           have p218 : 0 ≤ (x5_2 : Int) := of_decide_eq_true (by first | (with_reducible assumption) | assumption)
           have q218 : x5_2 < (l0_1.length : Int) := of_decide_eq_true (by first | (with_reducible assumption) | assumption)
           obtain ⟨ad218, A218_1, c218_1, e218, hx218_0, hx218_1, hl218_1, hi218_1⟩ := at_T44 HR0_1.out x5_2 p218 q218
           have hw218_1 := hx218_1
           have hw218_0 := hx218_0
           obtain rfl : ad216 = ad218 := (by injection e218)
           replace hx218_0 := (HB.out.cell (World.block_lt_of_cell? w _ hx218_0)).trans hx218_0
           replace hx218_1 := (HB.out.cell (World.block_lt_of_cell? w _ hx218_1)).trans hx218_1
           have HR218_1 := Ax.mk hi218_1
           have HC218_1 := Ax.mk hl218_1
           clear hi218_1 hl218_1
           replace p218 := eq_true p218
           replace q218 := eq_true q218
           have ea_ := Option.some.inj (hx216_1.symm.trans hx218_1)
           injection ea_ with ea_ en_ ec_
           subst ea_
           subst ec_
           clear en_
           have p219 : 0 ≤ (x5_2 : Int) := of_decide_eq_true (by first | (with_reducible assumption) | assumption)
           have q219 : x5_2 < (l1_1.length : Int) := of_decide_eq_true (by first | (with_reducible assumption) | assumption)
           obtain ⟨ad219, A219_1, c219_1, e219, hx219_0, hx219_1, hl219_1, hi219_1⟩ := at_T46 HR1_1.out x5_2 p219 q219
           have hw219_1 := hx219_1
           have hw219_0 := hx219_0
           obtain rfl : ad217 = ad219 := (by injection e219)
           replace hx219_0 := (HB.out.cell (World.block_lt_of_cell? w _ hx219_0)).trans hx219_0
           replace hx219_1 := (HB.out.cell (World.block_lt_of_cell? w _ hx219_1)).trans hx219_1
           have HR219_1 := Ax.mk hi219_1
           have HC219_1 := Ax.mk hl219_1
           clear hi219_1 hl219_1
           replace p219 := eq_true p219
           replace q219 := eq_true q219
           have ea_ := Option.some.inj (hx217_1.symm.trans hx219_1)
           injection ea_ with ea_ en_ ec_
           subst ea_
           subst ec_
           clear en_
           refine start_ (n := 29) (S := fun w' => w'.cell? ⟨gb214, 0, none⟩ = some (.int .u64 a0_0) ∧ w'.cell? ⟨gb214, 1, none⟩ = some (.slice (some ad216) l0_1.length c0_1) ∧ w'.cell? ⟨gb214, 2, none⟩ = some (.string a0_2) ∧ w'.cell? ⟨gb215, 0, none⟩ = some (.int .u64 a1_0) ∧ w'.cell? ⟨gb215, 1, none⟩ = some (.slice (some ad217) l1_1.length c1_1) ∧ w'.cell? ⟨gb215, 2, none⟩ = some (.string a1_2) ∧ w'.cell? (ad216.add ((x5_2).toNat * 2)) = some (.int .u64 ((rd_T44 l0_1 x5_2).f0)) ∧ w'.cell? ⟨(ad216.add ((x5_2).toNat * 2)).block, (ad216.add ((x5_2).toNat * 2)).off + 1, none⟩ = some (.slice A216_1 ((rd_T44 l0_1 x5_2).f1).length c216_1) ∧ w'.cell? (ad217.add ((x5_2).toNat * 2)) = some (.int .u64 ((rd_T46 l1_1 x5_2).f0)) ∧ w'.cell? ⟨(ad217.add ((x5_2).toNat * 2)).block, (ad217.add ((x5_2).toNat * 2)).off + 1, none⟩ = some (.slice A217_1 ((rd_T46 l1_1 x5_2).f1).length c217_1) ∧ w'.cell? (ad216.add ((x5_2).toNat * 2)) = some (.int .u64 ((rd_T44 l0_1 x5_2).f0)) ∧ w'.cell? ⟨(ad216.add ((x5_2).toNat * 2)).block, (ad216.add ((x5_2).toNat * 2)).off + 1, none⟩ = some (.slice A216_1 ((rd_T44 l0_1 x5_2).f1).length c216_1) ∧ w'.cell? (ad217.add ((x5_2).toNat * 2)) = some (.int .u64 ((rd_T46 l1_1 x5_2).f0)) ∧ w'.cell? ⟨(ad217.add ((x5_2).toNat * 2)).block, (ad217.add ((x5_2).toNat * 2)).off + 1, none⟩ = some (.slice A217_1 ((rd_T46 l1_1 x5_2).f1).length c217_1)) (ds := []) #[false, false, false, false, false, false, false, false, false, false, false, false, false, false, false, false, false, false, false, false, false, false, false, false, false, false, false, false, false] (by kernel_rfl) rfl rfl ⟨(bC BK214.out 0).trans rfl, (bC BK214.out 1).trans rfl, (bC BK214.out 2).trans rfl, (bC BK215.out 0).trans rfl, (bC BK215.out 1).trans rfl, (bC BK215.out 2).trans rfl, ((HB.out.cell (World.block_lt_of_cell? w _ hw216_0)).trans hw216_0), ((HB.out.cell (World.block_lt_of_cell? w _ hw216_1)).trans hw216_1), ((HB.out.cell (World.block_lt_of_cell? w _ hw217_0)).trans hw217_0), ((HB.out.cell (World.block_lt_of_cell? w _ hw217_1)).trans hw217_1), ((HB.out.cell (World.block_lt_of_cell? w _ hw218_0)).trans hw218_0), ((HB.out.cell (World.block_lt_of_cell? w _ hw218_1)).trans hw218_1), ((HB.out.cell (World.block_lt_of_cell? w _ hw219_0)).trans hw219_0), ((HB.out.cell (World.block_lt_of_cell? w _ hw219_1)).trans hw219_1)⟩ (fun hHeld => ?_); refine with_tabW l13_same.tab6 l13_same.bits6 (fun HT_ HW_ => ?_)
           generalize wr.drew = w20 at BK214 BK215 HB HR216_1 HR217_1 HR218_1 HR219_1 hx216_0 hx216_1 hx217_0 hx217_1 hx218_0 hx218_1 hx219_0 hx219_1 hHeld ⊢
           refine pure_ (i := 0) (N := some 34) (v := ?_) (a' := ?_) #[true, false, false, false, false, false, false, false, false, false, false, false, false, false, false, false, false, false, false, false, false, false, false, false, false, false, false, false, false] rfl rfl (any_of HT_.out (by kernel_rfl)) (fun _ _ _ h => h) (Or.inl ⟨by rfl, ?_⟩) ?_ ?_
           rotate_left
           ·intro w'
            go_simp
            with_reducible rfl
           rotate_left
           ·simp only [Act.put, setIfInBounds_toArray, set_cons_zero, set_cons_succ, i64_w, i32_w]
            rfl
           refine pure_ (i := 2) (N := some 36) (v := ?_) (a' := ?_) #[true, false, true, false, false, false, false, false, false, false, false, false, false, false, false, false, false, false, false, false, false, false, false, false, false, false, false, false, false] rfl rfl (any_of HT_.out (by kernel_rfl)) (fun _ _ _ h => h) (Or.inl ⟨by rfl, ?_⟩) ?_ ?_
           rotate_left
           ·intro w'
            go_simp
            with_reducible rfl
           rotate_left
           ·simp only [Act.put, setIfInBounds_toArray, set_cons_zero, set_cons_succ, i64_w, i32_w]
            rfl
           refine pure_ (i := 6) (N := some 40) (v := ?_) (a' := ?_) #[true, false, true, false, false, false, true, false, false, false, false, false, false, false, false, false, false, false, false, false, false, false, false, false, false, false, false, false, false] rfl rfl (any_of HT_.out (by kernel_rfl)) (fun _ _ _ h => h) (Or.inl ⟨by rfl, ?_⟩) ?_ ?_
           rotate_left
           ·intro w'
            go_simp
            with_reducible rfl
           rotate_left
           ·simp only [Act.put, setIfInBounds_toArray, set_cons_zero, set_cons_succ, i64_w, i32_w]
            rfl
           refine pure_ (i := 8) (N := some 42) (v := ?_) (a' := ?_) #[true, false, true, false, false, false, true, false, true, false, false, false, false, false, false, false, false, false, false, false, false, false, false, false, false, false, false, false, false] rfl rfl (any_of HT_.out (by kernel_rfl)) (fun _ _ _ h => h) (Or.inl ⟨by rfl, ?_⟩) ?_ ?_
           rotate_left
           ·intro w'
            go_simp
            with_reducible rfl
           rotate_left
           ·simp only [Act.put, setIfInBounds_toArray, set_cons_zero, set_cons_succ, i64_w, i32_w]
            rfl
           refine take_ (i := 1) (N := some 35) (v := ?_) (a' := ?_) #[true, true, true, false, false, false, true, false, true, false, false, false, false, false, false, false, false, false, false, false, false, false, false, false, false, false, false, false, false] rfl rfl (take_ofW HT_.out HW_.out (by kernel_rfl)) (fun _ _ _ h => h) (Or.inl ⟨by rfl, ?_⟩) hHeld ?_ ?_
           rotate_left
           ·rintro w' ⟨s0, s1, s2, s3, s4, s5, s6, s7, s8, s9, s10, s11, s12, s13⟩
            go_simp
            with_reducible rfl
           rotate_left
           ·simp only [Act.put, setIfInBounds_toArray, set_cons_zero, set_cons_succ, i64_w, i32_w]
            rfl
           refine pure_ (i := 3) (N := some 37) (v := ?_) (a' := ?_) #[true, true, true, true, false, false, true, false, true, false, false, false, false, false, false, false, false, false, false, false, false, false, false, false, false, false, false, false, false] rfl rfl (any_of HT_.out (by kernel_rfl)) (fun _ _ _ h => h) (Or.inl ⟨by rfl, ?_⟩) ?_ ?_
           rotate_left
           ·intro w'
            go_simp
            with_reducible rfl
           rotate_left
           ·simp only [Act.put, setIfInBounds_toArray, set_cons_zero, set_cons_succ, i64_w, i32_w]
            rfl
           refine pure_ (i := 4) (N := some 38) (v := ?_) (a' := ?_) #[true, true, true, true, true, false, true, false, true, false, false, false, false, false, false, false, false, false, false, false, false, false, false, false, false, false, false, false, false] rfl rfl (any_of HT_.out (by kernel_rfl)) (fun _ _ _ h => h) (Or.inl ⟨by rfl, ?_⟩) ?_ ?_
           rotate_left
           ·intro w'
            go_simp
            with_reducible rfl
           rotate_left
           ·simp only [Act.put, setIfInBounds_toArray, set_cons_zero, set_cons_succ, i64_w, i32_w]
            rfl
           refine take_ (i := 5) (N := some 39) (v := ?_) (a' := ?_) #[true, true, true, true, true, true, true, false, true, false, false, false, false, false, false, false, false, false, false, false, false, false, false, false, false, false, false, false, false] rfl rfl (take_ofW HT_.out HW_.out (by kernel_rfl)) (fun _ _ _ h => h) (Or.inl ⟨by rfl, ?_⟩) hHeld ?_ ?_
           rotate_left
           ·rintro w' ⟨s0, s1, s2, s3, s4, s5, s6, s7, s8, s9, s10, s11, s12, s13⟩
            go_simp
            with_reducible rfl
           rotate_left
           ·simp only [Act.put, setIfInBounds_toArray, set_cons_zero, set_cons_succ, i64_w, i32_w]
            rfl
           refine take_ (i := 7) (N := some 41) (v := ?_) (a' := ?_) #[true, true, true, true, true, true, true, true, true, false, false, false, false, false, false, false, false, false, false, false, false, false, false, false, false, false, false, false, false] rfl rfl (take_ofW HT_.out HW_.out (by kernel_rfl)) (fun _ _ _ h => h) (Or.inl ⟨by rfl, ?_⟩) hHeld ?_ ?_
           rotate_left
           ·rintro w' ⟨s0, s1, s2, s3, s4, s5, s6, s7, s8, s9, s10, s11, s12, s13⟩
            go_simp
            with_reducible rfl
           rotate_left
           ·simp only [Act.put, setIfInBounds_toArray, set_cons_zero, set_cons_succ, i64_w, i32_w]
            rfl
           refine pure_ (i := 9) (N := some 43) (v := ?_) (a' := ?_) #[true, true, true, true, true, true, true, true, true, true, false, false, false, false, false, false, false, false, false, false, false, false, false, false, false, false, false, false, false] rfl rfl (any_of HT_.out (by kernel_rfl)) (fun _ _ _ h => h) (Or.inl ⟨by rfl, ?_⟩) ?_ ?_
           rotate_left
           ·intro w'
            go_simp
            with_reducible rfl
           rotate_left
           ·simp only [Act.put, setIfInBounds_toArray, set_cons_zero, set_cons_succ, i64_w, i32_w]
            rfl
           refine pure_ (i := 10) (N := some 44) (v := ?_) (a' := ?_) #[true, true, true, true, true, true, true, true, true, true, true, false, false, false, false, false, false, false, false, false, false, false, false, false, false, false, false, false, false] rfl rfl (any_of HT_.out (by kernel_rfl)) (fun _ _ _ h => h) (Or.inl ⟨by rfl, ?_⟩) ?_ ?_
           rotate_left
           ·intro w'
            go_simp
            with_reducible rfl
           rotate_left
           ·simp only [Act.put, setIfInBounds_toArray, set_cons_zero, set_cons_succ, i64_w, i32_w]
            rfl
           refine take_ (i := 11) (N := some 45) (v := ?_) (a' := ?_) #[true, true, true, true, true, true, true, true, true, true, true, true, false, false, false, false, false, false, false, false, false, false, false, false, false, false, false, false, false] rfl rfl (take_ofW HT_.out HW_.out (by kernel_rfl)) (fun _ _ _ h => h) (Or.inl ⟨by rfl, ?_⟩) hHeld ?_ ?_
           rotate_left
           ·rintro w' ⟨s0, s1, s2, s3, s4, s5, s6, s7, s8, s9, s10, s11, s12, s13⟩
            go_simp
            with_reducible rfl
           rotate_left
           ·simp only [Act.put, setIfInBounds_toArray, set_cons_zero, set_cons_succ, i64_w, i32_w]
            rfl
           refine pure_ (i := 12) (N := some 46) (v := ?_) (a' := ?_) #[true, true, true, true, true, true, true, true, true, true, true, true, true, false, false, false, false, false, false, false, false, false, false, false, false, false, false, false, false] rfl rfl (any_of HT_.out (by kernel_rfl)) (fun _ _ _ h => h) (Or.inl ⟨by rfl, ?_⟩) ?_ ?_
           rotate_left
           ·intro w'
            go_simp
            with_reducible rfl
           rotate_left
           ·simp only [Act.put, setIfInBounds_toArray, set_cons_zero, set_cons_succ, i64_w, i32_w]
            rfl
           refine pure_ (i := 13) (N := some 47) (v := ?_) (a' := ?_) #[true, true, true, true, true, true, true, true, true, true, true, true, true, true, false, false, false, false, false, false, false, false, false, false, false, false, false, false, false] rfl rfl (any_of HT_.out (by kernel_rfl)) (fun _ _ _ h => h) (Or.inl ⟨by rfl, ?_⟩) ?_ ?_
           rotate_left
           ·intro w'
            go_simp
            with_reducible rfl
           rotate_left
           ·simp only [Act.put, setIfInBounds_toArray, set_cons_zero, set_cons_succ, i64_w, i32_w]
            rfl
           refine pure_ (i := 14) (N := some 48) (v := ?_) (a' := ?_) #[true, true, true, true, true, true, true, true, true, true, true, true, true, true, true, false, false, false, false, false, false, false, false, false, false, false, false, false, false] rfl rfl (any_of HT_.out (by kernel_rfl)) (fun _ _ _ h => h) (Or.inl ⟨by rfl, ?_⟩) ?_ ?_
           rotate_left
           ·intro w'
            go_simp
            with_reducible rfl
           rotate_left
           ·simp only [Act.put, setIfInBounds_toArray, set_cons_zero, set_cons_succ, i64_w, i32_w]
            rfl
           refine pure_ (i := 16) (N := some 50) (v := ?_) (a' := ?_) #[true, true, true, true, true, true, true, true, true, true, true, true, true, true, true, false, true, false, false, false, false, false, false, false, false, false, false, false, false] rfl rfl (any_of HT_.out (by kernel_rfl)) (fun _ _ _ h => h) (Or.inl ⟨by rfl, ?_⟩) ?_ ?_
           rotate_left
           ·intro w'
            go_simp
            with_reducible rfl
           rotate_left
           ·simp only [Act.put, setIfInBounds_toArray, set_cons_zero, set_cons_succ, i64_w, i32_w]
            rfl
           refine pure_ (i := 20) (N := some 54) (v := ?_) (a' := ?_) #[true, true, true, true, true, true, true, true, true, true, true, true, true, true, true, false, true, false, false, false, true, false, false, false, false, false, false, false, false] rfl rfl (any_of HT_.out (by kernel_rfl)) (fun _ _ _ h => h) (Or.inl ⟨by rfl, ?_⟩) ?_ ?_
           rotate_left
           ·intro w'
            go_simp
            with_reducible rfl
           rotate_left
           ·simp only [Act.put, setIfInBounds_toArray, set_cons_zero, set_cons_succ, i64_w, i32_w]
            rfl
           refine pure_ (i := 22) (N := some 56) (v := ?_) (a' := ?_) #[true, true, true, true, true, true, true, true, true, true, true, true, true, true, true, false, true, false, false, false, true, false, true, false, false, false, false, false, false] rfl rfl (any_of HT_.out (by kernel_rfl)) (fun _ _ _ h => h) (Or.inl ⟨by rfl, ?_⟩) ?_ ?_
           rotate_left
           ·intro w'
            go_simp
            with_reducible rfl
           rotate_left
           ·simp only [Act.put, setIfInBounds_toArray, set_cons_zero, set_cons_succ, i64_w, i32_w]
            rfl
           refine take_ (i := 15) (N := some 49) (v := ?_) (a' := ?_) #[true, true, true, true, true, true, true, true, true, true, true, true, true, true, true, true, true, false, false, false, true, false, true, false, false, false, false, false, false] rfl rfl (take_ofW HT_.out HW_.out (by kernel_rfl)) (fun _ _ _ h => h) (Or.inl ⟨by rfl, ?_⟩) hHeld ?_ ?_
           rotate_left
           ·rintro w' ⟨s0, s1, s2, s3, s4, s5, s6, s7, s8, s9, s10, s11, s12, s13⟩
            go_simp
            with_reducible rfl
           rotate_left
           ·simp only [Act.put, setIfInBounds_toArray, set_cons_zero, set_cons_succ, i64_w, i32_w]
            rfl
           refine pure_ (i := 17) (N := some 51) (v := ?_) (a' := ?_) #[true, true, true, true, true, true, true, true, true, true, true, true, true, true, true, true, true, true, false, false, true, false, true, false, false, false, false, false, false] rfl rfl (any_of HT_.out (by kernel_rfl)) (fun _ _ _ h => h) (Or.inl ⟨by rfl, ?_⟩) ?_ ?_
           rotate_left
           ·intro w'
            go_simp
            with_reducible rfl
           rotate_left
           ·simp only [Act.put, setIfInBounds_toArray, set_cons_zero, set_cons_succ, i64_w, i32_w]
            rfl
           refine pure_ (i := 18) (N := some 52) (v := ?_) (a' := ?_) #[true, true, true, true, true, true, true, true, true, true, true, true, true, true, true, true, true, true, true, false, true, false, true, false, false, false, false, false, false] rfl rfl (any_of HT_.out (by kernel_rfl)) (fun _ _ _ h => h) (Or.inl ⟨by rfl, ?_⟩) ?_ ?_
           rotate_left
           ·intro w'
            go_simp
            with_reducible rfl
           rotate_left
           ·simp only [Act.put, setIfInBounds_toArray, set_cons_zero, set_cons_succ, i64_w, i32_w]
            rfl
           refine take_ (i := 19) (N := some 53) (v := ?_) (a' := ?_) #[true, true, true, true, true, true, true, true, true, true, true, true, true, true, true, true, true, true, true, true, true, false, true, false, false, false, false, false, false] rfl rfl (take_ofW HT_.out HW_.out (by kernel_rfl)) (fun _ _ _ h => h) (Or.inl ⟨by rfl, ?_⟩) hHeld ?_ ?_
           rotate_left
           ·rintro w' ⟨s0, s1, s2, s3, s4, s5, s6, s7, s8, s9, s10, s11, s12, s13⟩
            go_simp
            with_reducible rfl
           rotate_left
           ·simp only [Act.put, setIfInBounds_toArray, set_cons_zero, set_cons_succ, i64_w, i32_w]
            rfl
           refine take_ (i := 21) (N := some 55) (v := ?_) (a' := ?_) #[true, true, true, true, true, true, true, true, true, true, true, true, true, true, true, true, true, true, true, true, true, true, true, false, false, false, false, false, false] rfl rfl (take_ofW HT_.out HW_.out (by kernel_rfl)) (fun _ _ _ h => h) (Or.inl ⟨by rfl, ?_⟩) hHeld ?_ ?_
           rotate_left
           ·rintro w' ⟨s0, s1, s2, s3, s4, s5, s6, s7, s8, s9, s10, s11, s12, s13⟩
            go_simp
            with_reducible rfl
           rotate_left
           ·simp only [Act.put, setIfInBounds_toArray, set_cons_zero, set_cons_succ, i64_w, i32_w]
            rfl
           refine pure_ (i := 23) (N := some 57) (v := ?_) (a' := ?_) #[true, true, true, true, true, true, true, true, true, true, true, true, true, true, true, true, true, true, true, true, true, true, true, true, false, false, false, false, false] rfl rfl (any_of HT_.out (by kernel_rfl)) (fun _ _ _ h => h) (Or.inl ⟨by rfl, ?_⟩) ?_ ?_
           rotate_left
           ·intro w'
            go_simp
            with_reducible rfl
           rotate_left
           ·simp only [Act.put, setIfInBounds_toArray, set_cons_zero, set_cons_succ, i64_w, i32_w]
            rfl
           refine pure_ (i := 24) (N := some 58) (v := ?_) (a' := ?_) #[true, true, true, true, true, true, true, true, true, true, true, true, true, true, true, true, true, true, true, true, true, true, true, true, true, false, false, false, false] rfl rfl (any_of HT_.out (by kernel_rfl)) (fun _ _ _ h => h) (Or.inl ⟨by rfl, ?_⟩) ?_ ?_
           rotate_left
           ·intro w'
            go_simp
            with_reducible rfl
           rotate_left
           ·simp only [Act.put, setIfInBounds_toArray, set_cons_zero, set_cons_succ, i64_w, i32_w]
            rfl
           refine take_ (i := 25) (N := some 59) (v := ?_) (a' := ?_) #[true, true, true, true, true, true, true, true, true, true, true, true, true, true, true, true, true, true, true, true, true, true, true, true, true, true, false, false, false] rfl rfl (take_ofW HT_.out HW_.out (by kernel_rfl)) (fun _ _ _ h => h) (Or.inl ⟨by rfl, ?_⟩) hHeld ?_ ?_
           rotate_left
           ·rintro w' ⟨s0, s1, s2, s3, s4, s5, s6, s7, s8, s9, s10, s11, s12, s13⟩
            go_simp
            with_reducible rfl
           rotate_left
           ·simp only [Act.put, setIfInBounds_toArray, set_cons_zero, set_cons_succ, i64_w, i32_w]
            rfl
           refine one_ (i := 26) (N := some 60) #[true, true, true, true, true, true, true, true, true, true, true, true, true, true, true, true, true, true, true, true, true, true, true, true, true, true, true, false, false] rfl rfl (one_of HT_.out (by kernel_rfl)) (by decide) (fun K hK => ?_)
           refine goes_ Tryd.func35 (by kernel_rfl) rfl #[.slice A216_1 ((rd_T44 l0_1 x5_2).f1).length c216_1, .slice A217_1 ((rd_T46 l1_1 x5_2).f1).length c217_1] (by rfl) rfl rfl (by (try simp only [List.map_toArray, List.map_cons, List.map_nil]); first | done | rfl | (simp only [List.length_drop, List.length_take]; rfl) | (rw [wrap_sum2 (by assumption)]; rfl)) ?_
           with_reducible refine (l13_sameSteps.calls k2 _ _ ((rd_T44 l0_1 x5_2).f1) _ _ ((rd_T46 l1_1 x5_2).f1) true _ ?side1 ?side2 ?side3 ?side4 A16.out).mono ?_
           (case side1 => repeat (first | exact (Kd.C_below HR218_1.out HB.out) | (with_reducible refine Kd.C_alloc ?_ _) | (with_reducible refine Kd.C_drewN ?_ _) | (with_reducible refine Kd.C_drew ?_)))
           (case side2 => exact HC218_1.out)
           (case side3 => repeat (first | exact (Kd.C_below HR219_1.out HB.out) | (with_reducible refine Kd.C_alloc ?_ _) | (with_reducible refine Kd.C_drewN ?_ _) | (with_reducible refine Kd.C_drew ?_)))
           (case side4 => exact HC219_1.out)
           rintro e w21 ⟨rfl, hb⟩
           refine ⟨_, rfl, ?_⟩
           have n0_ := Ax.mk (bB (bT BK214.out) hb)
           have n1_ := Ax.mk (bB (bT BK215.out) hb)
           have n2_ := Ax.mk (bP bA hb)
           clear BK214
           clear BK215
           clear HB
           have BK214 := n0_
           have BK215 := n1_
           have HB := n2_
           clear n0_ n1_ n2_
           (try clear hb)
           (try clear hb2)
           (try clear hk)
           (try clear hi)
           refine hK.out _ _ ⟨(bC BK214.out 0).trans rfl, (bC BK214.out 1).trans rfl, (bC BK214.out 2).trans rfl, (bC BK215.out 0).trans rfl, (bC BK215.out 1).trans rfl, (bC BK215.out 2).trans rfl, ((HB.out.cell (World.block_lt_of_cell? w _ hw216_0)).trans hw216_0), ((HB.out.cell (World.block_lt_of_cell? w _ hw216_1)).trans hw216_1), ((HB.out.cell (World.block_lt_of_cell? w _ hw217_0)).trans hw217_0), ((HB.out.cell (World.block_lt_of_cell? w _ hw217_1)).trans hw217_1), ((HB.out.cell (World.block_lt_of_cell? w _ hw218_0)).trans hw218_0), ((HB.out.cell (World.block_lt_of_cell? w _ hw218_1)).trans hw218_1), ((HB.out.cell (World.block_lt_of_cell? w _ hw219_0)).trans hw219_0), ((HB.out.cell (World.block_lt_of_cell? w _ hw219_1)).trans hw219_1)⟩ (fun hHeld => ?_)
           clear hK K
           refine norm_ (a' := ?_) ?_ ?_
           rotate_left
           ·show Act.put _ (some 60) _ = _
            simp only [Act.put, setIfInBounds_toArray, set_cons_zero, set_cons_succ, i64_w, i32_w]
            rfl
           refine pure_ (i := 27) (N := some 61) (v := ?_) (a' := ?_) #[true, true, true, true, true, true, true, true, true, true, true, true, true, true, true, true, true, true, true, true, true, true, true, true, true, true, true, true, false] rfl rfl (any_of HT_.out (by kernel_rfl)) (fun _ _ _ h => h) (Or.inl ⟨by rfl, ?_⟩) ?_ ?_
           rotate_left
           ·intro w'
            go_simp
            with_reducible rfl
           rotate_left
           ·simp only [Act.put, setIfInBounds_toArray, set_cons_zero, set_cons_succ, i64_w, i32_w]
            rfl
           refine pure_ (i := 28) (N := some 62) (v := ?_) (a' := ?_) #[true, true, true, true, true, true, true, true, true, true, true, true, true, true, true, true, true, true, true, true, true, true, true, true, true, true, true, true, true] rfl rfl (any_of HT_.out (by kernel_rfl)) (fun _ _ _ h => h) (Or.inl ⟨by rfl, ?_⟩) ?_ ?_
           rotate_left
           ·intro w'
            go_simp
            with_reducible rfl
           rotate_left
           ·simp only [Act.put, setIfInBounds_toArray, set_cons_zero, set_cons_succ, i64_w, i32_w]
            rfl
           refine done_ (done_of HT_.out (by kernel_rfl)) ?_
           try go_wp2
           go_roundg k2
           case measure => have := HJ2.out; have := HK2.out; omega
           case rel => exact ⟨(wrap64 (x5_2 + 1)), (by first | rfl | (simp; done) | (simp [*]; done)), H', ⟨by have := HJ2.out; have := HK2.out; omega⟩, ⟨by refine bT ?_; exact BK214.out⟩, ⟨by refine bT ?_; exact BK215.out⟩, ⟨bA⟩⟩
          ·replace c17 := Bool.eq_false_iff.mpr c17
           subst c17
           have H1 : (none) = some r := by rw [if_neg (show ¬ (false = true) by decide)] at H; exact H
           clear H
           have H := H1
           clear H1
           exact absurd H (by simp)
         ·rw [if_neg c15] at H
          have c15b0 : (((rd_T44 l0_1 x5_2).f0) == ((rd_T46 l1_1 x5_2).f0)) = false := beq_eq_false_iff_ne.mpr c15
          have c15b1 : (((rd_T44 l0_1 x5_2).f0) != ((rd_T46 l1_1 x5_2).f0)) = true := bne_iff_ne.mpr c15
          exact absurd H (by simp)
        ·rw [if_neg c14] at H
         exact absurd H (by simp)
       ·rw [if_neg c13] at H
        exact absurd H (by simp)
      ·rw [if_neg c12] at H
       have c12b0 : decide (x5_2 < (l0_1.length : Int)) = false := decide_eq_false c12
       clear c12
       obtain rfl := Option.some.inj H
       have hnb22 := NB214_215.out
       have hnc22 := NB215_214.out
       have hcz23_0 : wr.cell? ⟨gb214, 0, none⟩ = some (.int .u64 a0_0) := (bC BK214.out 0).trans rfl
       have hcz23_1 : wr.cell? ⟨gb214, 1, none⟩ = some (.slice A0_1 l0_1.length c0_1) := (bC BK214.out 1).trans rfl
       have hcz23_2 : wr.cell? ⟨gb214, 2, none⟩ = some (.string a0_2) := (bC BK214.out 2).trans rfl
       have hfz23_0 := bF BK214.out 0
       have hfz23_1 := bF BK214.out 1
       have hfz23_2 := bF BK214.out 2
       go_wp2
       go_ret
       exact ⟨by first | rfl | (simp [errW_none, errW_some] <;> rfl) | (simp [*, errW_none, errW_some] <;> rfl), bA⟩
end Go.Proofs.YtboommbclbjlnaaDoor.Fn
end
section
namespace Go.Proofs.YtboommbclbjlnaaDoor.Fn
open Go.RowKit Go.Proofs.YtboommbclbjlnaaDoorW.PrintWords Go.Proofs.YtboommbclbjlnaaDoorW.PrintLast Go.Proofs.YtboommbclbjlnaaDoorW.PrintMore Go.Proofs.YtboommbclbjlnaaDoor.Lf
attribute [local go_sem] max2_int min2_int max_two min_two max_three min_three max_four min_four   -- for this text's walks alone
set_option linter.unusedVariables false
set_option linter.unusedSimpArgs false
mutual
def l13_built.j0 : Nat → List (List (S24)) → Bool → Int → List (S44) → ByteArray → Int → List (S46) → ByteArray → Option (Int × (List (S44)) × ByteArray × Int × (List (S46)) × ByteArray × Bool)
 | 0, _, _, _, _, _, _, _, _ => none
 | k + 1, x2, x39, x288000, x288001, x288002, x298000, x298001, x298002 => if x39 = true then (none) else (l13_built.l0 k x2 0 x288000 x288001 x288002 x298000 x298001 x298002)
def l13_built.l0 : Nat → List (List (S24)) → Int → Int → List (S44) → ByteArray → Int → List (S46) → ByteArray → Option (Int × (List (S44)) × ByteArray × Int × (List (S46)) × ByteArray × Bool)
 | 0, _, _, _, _, _, _, _, _ => none
 | k + 1, x2, x13, x288000, x288001, x288002, x298000, x298001, x298002 => if x13 < (x2.length : Int) then (if 0 ≤ x13 then ((journal_Add.f k x288000 x288001 x288002 (rd_L4 x2 x13)).bind fun bt300 => ((l13_steps.f k (rd_L4 x2 x13)).bind fun t308 => ((r13_Add.f k x298000 x298001 x298002 t308).bind fun bt311 => (if bt300.2.2.2 = bt311.2.2.2 then ((l13_same.f k bt300.1 bt300.2.1 bt300.2.2.1 bt311.1 bt311.2.1 bt311.2.2.1).bind fun t318 => (l13_built.j2 k x2 x13 bt300.2.2.2 (!t318) x288000 x288001 x288002 x298000 x298001 x298002 bt300.1 bt300.2.1 bt300.2.2.1 bt311.1 bt311.2.1 bt311.2.2.1)) else (l13_built.j2 k x2 x13 bt300.2.2.2 true x288000 x288001 x288002 x298000 x298001 x298002 bt300.1 bt300.2.1 bt300.2.2.1 bt311.1 bt311.2.1 bt311.2.2.1))))) else (none)) else (some (x288000, x288001, x288002, x298000, x298001, x298002, true))
def l13_built.j2 : Nat → List (List (S24)) → Int → Int → Bool → Int → List (S44) → ByteArray → Int → List (S46) → ByteArray → Int → List (S44) → ByteArray → Int → List (S46) → ByteArray → Option (Int × (List (S44)) × ByteArray × Int × (List (S46)) × ByteArray × Bool)
 | 0, _, _, _, _, _, _, _, _, _, _, _, _, _, _, _, _ => none
 | k + 1, x2, x13, x15, x75, x288000, x288001, x288002, x298000, x298001, x298002, x307000, x307001, x307002, x318000, x318001, x318002 => if x75 = true then (none) else (if x15 = 0 then (l13_built.l0 k x2 (wrap64 (x13 + 1)) x307000 x307001 x307002 x318000 x318001 x318002) else (l13_built.l0 k x2 (wrap64 (x13 + 1)) x288000 x288001 x288002 x298000 x298001 x298002))
end
def l13_built.f (k : Nat) (a0 : Int) (l1 : List (S24)) (l2 : List (List (S24))) : Option (Int × (List (S44)) × ByteArray × Int × (List (S46)) × ByteArray × Bool) := (journal_New.f k a0 l1).bind fun bt281 => ((l13_steps.f k l1).bind fun t288 => ((r13_New.f k a0 t288).bind fun bt291 => (if bt281.2.2.2 = bt291.2.2.2 then ((l13_same.f k bt281.1 bt281.2.1 bt281.2.2.1 bt291.1 bt291.2.1 bt291.2.2.1).bind fun t298 => (l13_built.j0 k l2 (!t298) bt281.1 bt281.2.1 bt281.2.2.1 bt291.1 bt291.2.1 bt291.2.2.1)) else (l13_built.j0 k l2 true bt281.1 bt281.2.1 bt281.2.2.1 bt291.1 bt291.2.1 bt291.2.2.1))))
theorem l13_built.mono_l : ∀ k, (∀ y0 y1 y2 y3 y4 y5 y6 y7, LeO (l13_built.j0 k y0 y1 y2 y3 y4 y5 y6 y7) (l13_built.j0 (k + 1) y0 y1 y2 y3 y4 y5 y6 y7)) ∧ (∀ y0 y1 y2 y3 y4 y5 y6 y7, LeO (l13_built.l0 k y0 y1 y2 y3 y4 y5 y6 y7) (l13_built.l0 (k + 1) y0 y1 y2 y3 y4 y5 y6 y7)) ∧ (∀ y0 y1 y2 y3 y4 y5 y6 y7 y8 y9 y10 y11 y12 y13 y14 y15, LeO (l13_built.j2 k y0 y1 y2 y3 y4 y5 y6 y7 y8 y9 y10 y11 y12 y13 y14 y15) (l13_built.j2 (k + 1) y0 y1 y2 y3 y4 y5 y6 y7 y8 y9 y10 y11 y12 y13 y14 y15))
 | 0 => ⟨fun _ _ _ _ _ _ _ _ r h => by simp [l13_built.j0] at h, fun _ _ _ _ _ _ _ _ r h => by simp [l13_built.l0] at h, fun _ _ _ _ _ _ _ _ _ _ _ _ _ _ _ _ r h => by simp [l13_built.j2] at h⟩
 | k + 1 => by
  obtain ⟨ih0, ih1, ih2⟩ := l13_built.mono_l k
  refine ⟨?_, ?_, ?_⟩
  ·intro y0 y1 y2 y3 y4 y5 y6 y7
   unfold l13_built.j0
   repeat' first
   | (with_reducible exact ih0 _ _ _ _ _ _ _ _)
   | (with_reducible exact ih1 _ _ _ _ _ _ _ _)
   | (with_reducible exact ih2 _ _ _ _ _ _ _ _ _ _ _ _ _ _ _ _)
   | (with_reducible exact journal_Add.mono _ _ _ _ _)
   | (with_reducible exact journal_New.mono _ _ _)
   | (with_reducible exact l13_same.mono _ _ _ _ _ _ _)
   | (with_reducible exact l13_steps.mono _ _)
   | (with_reducible exact r13_Add.mono _ _ _ _ _)
   | (with_reducible exact r13_New.mono _ _ _)
   | (with_reducible exact LeO.refl _)
   | (with_reducible exact LeO.none _)
   | (with_reducible refine LeO.ite ?_ ?_)
   | (with_reducible refine LeO.bind ?_ (fun _ => ?_))
   | exact ih0 _ _ _ _ _ _ _ _
   | exact ih1 _ _ _ _ _ _ _ _
   | exact ih2 _ _ _ _ _ _ _ _ _ _ _ _ _ _ _ _
   | exact journal_Add.mono _ _ _ _ _
   | exact journal_New.mono _ _ _
   | exact l13_same.mono _ _ _ _ _ _ _
   | exact l13_steps.mono _ _
   | exact r13_Add.mono _ _ _ _ _
   | exact r13_New.mono _ _ _
   | exact LeO.none _
   | refine LeO.ite ?_ ?_
   | refine LeO.bind ?_ (fun _ => ?_)
  ·intro y0 y1 y2 y3 y4 y5 y6 y7
   unfold l13_built.l0
   repeat' first
   | (with_reducible exact ih0 _ _ _ _ _ _ _ _)
   | (with_reducible exact ih1 _ _ _ _ _ _ _ _)
   | (with_reducible exact ih2 _ _ _ _ _ _ _ _ _ _ _ _ _ _ _ _)
   | (with_reducible exact journal_Add.mono _ _ _ _ _)
   | (with_reducible exact journal_New.mono _ _ _)
   | (with_reducible exact l13_same.mono _ _ _ _ _ _ _)
   | (with_reducible exact l13_steps.mono _ _)
   | (with_reducible exact r13_Add.mono _ _ _ _ _)
   | (with_reducible exact r13_New.mono _ _ _)
   | (with_reducible exact LeO.refl _)
   | (with_reducible exact LeO.none _)
   | (with_reducible refine LeO.ite ?_ ?_)
   | (with_reducible refine LeO.bind ?_ (fun _ => ?_))
   | exact ih0 _ _ _ _ _ _ _ _
   | exact ih1 _ _ _ _ _ _ _ _
   | exact ih2 _ _ _ _ _ _ _ _ _ _ _ _ _ _ _ _
   | exact journal_Add.mono _ _ _ _ _
   | exact journal_New.mono _ _ _
   | exact l13_same.mono _ _ _ _ _ _ _
   | exact l13_steps.mono _ _
   | exact r13_Add.mono _ _ _ _ _
   | exact r13_New.mono _ _ _
   | exact LeO.none _
   | refine LeO.ite ?_ ?_
   | refine LeO.bind ?_ (fun _ => ?_)
  ·intro y0 y1 y2 y3 y4 y5 y6 y7 y8 y9 y10 y11 y12 y13 y14 y15
   unfold l13_built.j2
   repeat' first
   | (with_reducible exact ih0 _ _ _ _ _ _ _ _)
   | (with_reducible exact ih1 _ _ _ _ _ _ _ _)
   | (with_reducible exact ih2 _ _ _ _ _ _ _ _ _ _ _ _ _ _ _ _)
   | (with_reducible exact journal_Add.mono _ _ _ _ _)
   | (with_reducible exact journal_New.mono _ _ _)
   | (with_reducible exact l13_same.mono _ _ _ _ _ _ _)
   | (with_reducible exact l13_steps.mono _ _)
   | (with_reducible exact r13_Add.mono _ _ _ _ _)
   | (with_reducible exact r13_New.mono _ _ _)
   | (with_reducible exact LeO.refl _)
   | (with_reducible exact LeO.none _)
   | (with_reducible refine LeO.ite ?_ ?_)
   | (with_reducible refine LeO.bind ?_ (fun _ => ?_))
   | exact ih0 _ _ _ _ _ _ _ _
   | exact ih1 _ _ _ _ _ _ _ _
   | exact ih2 _ _ _ _ _ _ _ _ _ _ _ _ _ _ _ _
   | exact journal_Add.mono _ _ _ _ _
   | exact journal_New.mono _ _ _
   | exact l13_same.mono _ _ _ _ _ _ _
   | exact l13_steps.mono _ _
   | exact r13_Add.mono _ _ _ _ _
   | exact r13_New.mono _ _ _
   | exact LeO.none _
   | refine LeO.ite ?_ ?_
   | refine LeO.bind ?_ (fun _ => ?_)
theorem l13_built.mono : ∀ a0 a1 a2 k, LeO (l13_built.f k a0 a1 a2) (l13_built.f (k + 1) a0 a1 a2) := by
 intro a0 a1 a2 k
 obtain ⟨ih0, ih1, ih2⟩ := l13_built.mono_l k
 unfold l13_built.f
 repeat' first
   | (with_reducible exact ih0 _ _ _ _ _ _ _ _)
   | (with_reducible exact ih1 _ _ _ _ _ _ _ _)
   | (with_reducible exact ih2 _ _ _ _ _ _ _ _ _ _ _ _ _ _ _ _)
   | (with_reducible exact journal_Add.mono _ _ _ _ _)
   | (with_reducible exact journal_New.mono _ _ _)
   | (with_reducible exact l13_same.mono _ _ _ _ _ _ _)
   | (with_reducible exact l13_steps.mono _ _)
   | (with_reducible exact r13_Add.mono _ _ _ _ _)
   | (with_reducible exact r13_New.mono _ _ _)
   | (with_reducible exact LeO.refl _)
   | (with_reducible exact LeO.none _)
   | (with_reducible refine LeO.ite ?_ ?_)
   | (with_reducible refine LeO.bind ?_ (fun _ => ?_))
   | exact ih0 _ _ _ _ _ _ _ _
   | exact ih1 _ _ _ _ _ _ _ _
   | exact ih2 _ _ _ _ _ _ _ _ _ _ _ _ _ _ _ _
   | exact journal_Add.mono _ _ _ _ _
   | exact journal_New.mono _ _ _
   | exact l13_same.mono _ _ _ _ _ _ _
   | exact l13_steps.mono _ _
   | exact r13_Add.mono _ _ _ _ _
   | exact r13_New.mono _ _ _
   | exact LeO.none _
   | refine LeO.ite ?_ ?_
   | refine LeO.bind ?_ (fun _ => ?_)
def l13_built.T8 : Bool × List (List Nat × List Nat) := (true, [([], []), ([], []), ([], []), ([1, 2], [1, 2]), ([3], [3]), ([0, 4], [0, 4]), ([5], [5]), ([6], [6]), ([6], [6]), ([], []), ([9, 7, 5, 0, 1, 2, 3, 4, 5, 6, 7, 9], [7, 9]), ([8, 10, 0, 1, 2, 3, 4, 5, 6, 7, 8, 9, 10], [8])])
def l13_built.B8 : List Nat := [0, 0, 0, 6, 14, 31, 63, 127, 127, 0, 767, 2047]
theorem l13_built.tab8 : rtab .any (opsOf Tryd.f34 8) = l13_built.T8 := by kernel_rfl
theorem l13_built.bits8 : waitsOk l13_built.T8.2 l13_built.B8 = true := by kernel_rfl
def l13_built.T9 : Bool × List (List Nat × List Nat) := (true, [([], []), ([], []), ([], []), ([1, 2], [1, 2]), ([3], [3]), ([4], [4]), ([0, 5, 5], [0, 5]), ([6], [6]), ([7], [7]), ([7], [7]), ([], []), ([10, 8, 6, 0, 1, 2, 3, 4, 5, 6, 7, 8, 10], [8, 10]), ([9, 11, 0, 1, 2, 3, 4, 5, 6, 7, 8, 9, 10, 11], [9])])
def l13_built.B9 : List Nat := [0, 0, 0, 6, 14, 30, 63, 127, 255, 255, 0, 1535, 4095]
theorem l13_built.tab9 : rtab .any (opsOf Tryd.f34 9) = l13_built.T9 := by kernel_rfl
theorem l13_built.bits9 : waitsOk l13_built.T9.2 l13_built.B9 = true := by kernel_rfl
set_option maxHeartbeats 8000000 in
set_option maxRecDepth 100000 in
theorem l13_built.calls (k : Nat) (a0 : Int) (A1 : Option Addr) (c1 : Nat) (l1 : List (S24)) (A2 : Option Addr) (c2 : Nat) (l2 : List (List (S24))) (r1 : Int) (r2 : List (S44)) (r3 : ByteArray) (r4 : Int) (r5 : List (S46)) (r6 : ByteArray) (r7 : Bool) (w : World) (hr1 : Kd.C k24 w A1 l1.length l1) (hc1 : l1.length ≤ c1) (hr2 : Kd.C (Kd.slice 24 k24) w A2 l2.length l2) (hc2 : l2.length ≤ c2) (h : l13_built.f k a0 l1 l2 = some (r1, r2, r3, r4, r5, r6, r7)) (HT : Tabs w) :
  Calls Tryd.prog 34 #[.int .u64 a0, .slice A1 l1.length c1, .slice A2 l2.length c2] w fun e w' => ∃ v1_ v4_ : Value, e = .returned (.tuple #[.agg #[.int .u64 r1, v1_, .string r3], .agg #[.int .u64 r4, v4_, .string r6], .bool r7]) ∧ Kd.N k44 44 w' w.heap.size (fun k_ => (w.heap.size ≤ k_) ∧ some k_ ≠ (v4_ : Value).ownBlock) v1_ r2 ∧ Kd.N k46 46 w' w.heap.size (fun k_ => (w.heap.size ≤ k_) ∧ some k_ ≠ (v1_ : Value).ownBlock) v4_ r5 ∧ Below w.heap.size w w' := by
 have hu66 := Tryd.underlying66
 have hu68 := Tryd.underlying68
 have HR1 := Ax.mk hr1
 have HC1 := Ax.mk hc1
 clear hr1 hc1
 have HR2 := Ax.mk hr2
 have HC2 := Ax.mk hc2
 clear hr2 hc2
 have HB := Ax.mk (Below.refl w.heap.size w)
 have H : ((journal_New.f k a0 l1).bind fun bt281 => ((l13_steps.f k l1).bind fun t288 => ((r13_New.f k a0 t288).bind fun bt291 => (if bt281.2.2.2 = bt291.2.2.2 then ((l13_same.f k bt281.1 bt281.2.1 bt281.2.2.1 bt291.1 bt291.2.1 bt291.2.2.1).bind fun t298 => (l13_built.j0 k l2 (!t298) bt281.1 bt281.2.1 bt281.2.2.1 bt291.1 bt291.2.1 bt291.2.2.1)) else (l13_built.j0 k l2 true bt281.1 bt281.2.1 bt281.2.2.1 bt291.1 bt291.2.1 bt291.2.2.1))))) = some (r1, r2, r3, r4, r5, r6, r7) := h
 clear h
 replace H := Option.bind_eq_some_iff.mp H
 obtain ⟨⟨t281, t282, t285, t286⟩, A40, H⟩ := H
 replace H : ((l13_steps.f k l1).bind fun t288 => ((r13_New.f k a0 t288).bind fun bt291 => (if t286 = bt291.2.2.2 then ((l13_same.f k t281 t282 t285 bt291.1 bt291.2.1 bt291.2.2.1).bind fun t298 => (l13_built.j0 k l2 (!t298) t281 t282 t285 bt291.1 bt291.2.1 bt291.2.2.1)) else (l13_built.j0 k l2 true t281 t282 t285 bt291.1 bt291.2.1 bt291.2.2.1)))) = some (r1, r2, r3, r4, r5, r6, r7) := H
 have A4 := Ax.mk A40
 clear A40
 replace H := Option.bind_eq_some_iff.mp H
 obtain ⟨t288, A50, H⟩ := H
 replace H : ((r13_New.f k a0 t288).bind fun bt291 => (if t286 = bt291.2.2.2 then ((l13_same.f k t281 t282 t285 bt291.1 bt291.2.1 bt291.2.2.1).bind fun t298 => (l13_built.j0 k l2 (!t298) t281 t282 t285 bt291.1 bt291.2.1 bt291.2.2.1)) else (l13_built.j0 k l2 true t281 t282 t285 bt291.1 bt291.2.1 bt291.2.2.1))) = some (r1, r2, r3, r4, r5, r6, r7) := H
 have A5 := Ax.mk A50
 clear A50
 replace H := Option.bind_eq_some_iff.mp H
 obtain ⟨⟨t291, t292, t295, t296⟩, A60, H⟩ := H
 replace H : (if t286 = t296 then ((l13_same.f k t281 t282 t285 t291 t292 t295).bind fun t298 => (l13_built.j0 k l2 (!t298) t281 t282 t285 t291 t292 t295)) else (l13_built.j0 k l2 true t281 t282 t285 t291 t292 t295)) = some (r1, r2, r3, r4, r5, r6, r7) := H
 have A6 := Ax.mk A60
 clear A60
 have HC7 := Ax.mk H
 clear H
 go_enter Tryd.func34, Tryd.ntmps34
 go_upto_region 3 with (first | ((with_reducible refine gate_dst (N := 6) rfl ?_); refine box_event ?hg (N := 6) ?hd (cs := #[.int .u64 0, .slice none 0 0, .string (⟨#[]⟩ : ByteArray)]) (t := 66) ?hr ?_; (case hd => rfl); (case hg => rfl); (case hr => first | (go_simp; done) | (go_simp; rfl)); intro gb279 hg w8 hbox hb; have n0_ := Ax.mk (bP bA hb); have n1_ := Ax.mk (hbox); have n2_ := Ax.mk ((ge_new hg : w.heap.size ≤ gb279)); have n3_ := n2_; clear HB; have HB := n0_; have BK279 := n1_; have GW279 := n2_; have GE279 := n3_; clear n0_ n1_ n2_ n3_; clear hb hbox hg) | ((with_reducible refine gate_dst (N := 7) rfl ?_); refine box_event ?hg (N := 7) ?hd (cs := #[.int .u64 0, .slice none 0 0, .string (⟨#[]⟩ : ByteArray)]) (t := 68) ?hr ?_; (case hd => rfl); (case hg => rfl); (case hr => first | (go_simp; done) | (go_simp; rfl)); intro gb280 hg w9 hbox hb; have n0_ := Ax.mk (bB (bT BK279.out) hb); have n1_ := Ax.mk (bP bA hb); have n2_ := Ax.mk (hbox); have n3_ := Ax.mk ((ge_new hg : w.heap.size ≤ gb280)); have n4_ := n3_; have n5_ := Ax.mk ((ne_lt hg BK279.out : gb279 ≠ gb280)); have n6_ := Ax.mk ((ne_gt hg BK279.out : gb280 ≠ gb279)); clear BK279; clear HB; have BK279 := n0_; have HB := n1_; have BK280 := n2_; have GW280 := n3_; have GE280 := n4_; have NB279_280 := n5_; have NB280_279 := n6_; clear n0_ n1_ n2_ n3_ n4_ n5_ n6_; clear hb hbox hg) | ((with_reducible refine gate_callee (f := 38) rfl ?_); refine goesL_ (some 21) rfl rfl Tryd.func38 (by kernel_rfl) rfl #[.int .u64 a0, .slice A1 l1.length c1] rfl (by (try simp only [List.map_toArray, List.map_cons, List.map_nil]); first | done | rfl | (simp only [List.length_drop, List.length_take]; rfl) | (rw [wrap_sum2 (by assumption)]; rfl)) ?_; (with_reducible refine (journal_New.calls k a0 _ _ l1 t281 t282 t285 t286 _ ?side1 ?side2 A4.out (HT.below bA)).mono ?_); (case side1 => repeat (first | exact (Kd.C_below HR1.out HB.out) | (with_reducible refine Kd.C_alloc ?_ _) | (with_reducible refine Kd.C_drewN ?_ _) | (with_reducible refine Kd.C_drew ?_))); (case side2 => exact HC1.out); rintro e w10 ⟨v283, rfl, ho0, hb⟩; refine ⟨_, rfl, ?_⟩; have n0_ := Ax.mk (Kd.N_lower (Kd.N_mono (ok' := fun k_ => (w.heap.size ≤ k_) ∧ k_ ≠ gb279 ∧ k_ ≠ gb280) ho0 (fun k_ hk_ => ⟨(Nat.le_trans (bS bA) hk_), (Kd.freshB (g := gb279) (o := .cells #[.int .u64 0, .slice none 0 0, .string (⟨#[]⟩ : ByteArray)] 66 (0, 0)) (bT BK279.out) k_ hk_), (Kd.freshB (g := gb280) (o := .cells #[.int .u64 0, .slice none 0 0, .string (⟨#[]⟩ : ByteArray)] 68 (0, 0)) (bT BK280.out) k_ hk_)⟩)) (bS bA)); have n1_ := Ax.mk (bB (bT BK279.out) hb); have n2_ := Ax.mk (bB (bT BK280.out) hb); have n3_ := Ax.mk (bP bA hb); clear BK279; clear BK280; clear HB; have HO284 := n0_; have BK279 := n1_; have BK280 := n2_; have HB := n3_; clear n0_ n1_ n2_ n3_; (try clear hb); (try clear hb2); (try clear hk); (try clear hi); (try clear ho0)) | ((with_reducible refine gate_dst (N := 9) rfl ?_); refine box_event ?hg (N := 9) ?hd (cs := #[.int .u64 0, .slice none 0 0, .string (⟨#[]⟩ : ByteArray)]) (t := 66) ?hr ?_; (case hd => rfl); (case hg => rfl); (case hr => first | (go_simp; done) | (go_simp; rfl)); intro gb287 hg w11 hbox hb; have n0_ := Ax.mk (Kd.N_below (Kd.N_elderB (by exact Kd.N_to HO284.out) gb287 (Nat.le_of_eq hg.symm)) hb); have n1_ := Ax.mk (bB (bT BK279.out) hb); have n2_ := Ax.mk (bB (bT BK280.out) hb); have n3_ := Ax.mk (bP bA hb); have n4_ := Ax.mk (hbox); have n5_ := Ax.mk ((ge_new hg : w.heap.size ≤ gb287)); have n6_ := n5_; have n7_ := Ax.mk ((ne_lt hg BK279.out : gb279 ≠ gb287)); have n8_ := Ax.mk ((ne_gt hg BK279.out : gb287 ≠ gb279)); have n9_ := Ax.mk ((ne_lt hg BK280.out : gb280 ≠ gb287)); have n10_ := Ax.mk ((ne_gt hg BK280.out : gb287 ≠ gb280)); clear HO284; clear BK279; clear BK280; clear HB; have HO284 := n0_; have BK279 := n1_; have BK280 := n2_; have HB := n3_; have BK287 := n4_; have GW287 := n5_; have GE287 := n6_; have NB279_287 := n7_; have NB287_279 := n8_; have NB280_287 := n9_; have NB287_280 := n10_; clear n0_ n1_ n2_ n3_ n4_ n5_ n6_ n7_ n8_ n9_ n10_; clear hb hbox hg; have hnb12 := NB287_279.out; have hnc12 := NB279_287.out; have hnb13 := NB287_280.out; have hnc13 := NB280_287.out; have hcz14_0 : w11.cell? ⟨gb287, 0, none⟩ = some (.int .u64 0) := (bC BK287.out 0).trans rfl; have hcz14_1 : w11.cell? ⟨gb287, 1, none⟩ = some (.slice none 0 0) := (bC BK287.out 1).trans rfl; have hcz14_2 : w11.cell? ⟨gb287, 2, none⟩ = some (.string (⟨#[]⟩ : ByteArray)) := (bC BK287.out 2).trans rfl; have hfz14_0 := bF BK287.out 0; have hfz14_1 := bF BK287.out 1; have hfz14_2 := bF BK287.out 2; obtain ⟨Ao15, co15, eo15⟩ := Kd.N_slice HO284.out; subst eo15) | ((with_reducible refine gate_callee (f := 40) rfl ?_); refine goesL_ (some 27) rfl rfl Tryd.func40 (by kernel_rfl) rfl #[.slice A1 l1.length c1] rfl (by (try simp only [List.map_toArray, List.map_cons, List.map_nil]); first | done | rfl | (simp only [List.length_drop, List.length_take]; rfl) | (rw [wrap_sum2 (by assumption)]; rfl)) ?_; (with_reducible refine (l13_steps.calls k _ _ l1 t288 _ ?side1 ?side2 A5.out).mono ?_); (case side1 => exact Kd.C_below HR1.out bA); (case side2 => exact HC1.out); rintro e w16 ⟨v289, rfl, ho0, hb⟩; refine ⟨_, rfl, ?_⟩; have n0_ := Ax.mk (Kd.N_elder' (by apply Kd.N_to; exact (Kd.N_mono (Kd.N_far (p := ⟨gb287, 2, none⟩) (Kd.N_far (p := ⟨gb287, 1, none⟩) (Kd.N_far (p := ⟨gb287, 0, none⟩) (Kd.N_mono HO284.out (fun k_ hk => (⟨hk, hk.2⟩ : _ ∧ k_ ≠ gb287))) (fun _ hk => hk.2) (.int .u64 t281)) (fun _ hk => hk.2) (.slice Ao15 t282.length co15)) (fun _ hk => hk.2) (.string t285)) (fun _ h_ => h_.1))) (Kd.R_base ho0) hb); have n1_ := Ax.mk (Kd.R_lower (Kd.R_newM (M := fun k_ => (w.heap.size ≤ k_)) ho0 (bS bA) (fun k_ h_ => h_)) (bS bA)); have n2_ := Ax.mk (bB (g := gb279) (o := .cells #[.int .u64 0, .slice none 0 0, .string (⟨#[]⟩ : ByteArray)] 66 (0, 0)) (by refine bT ?_; refine bR ?_ NB279_287.out _; refine bT ?_; refine bR ?_ NB279_287.out _; refine bT ?_; refine bR ?_ NB279_287.out _; exact bT BK279.out) hb); have n3_ := Ax.mk (bB (g := gb280) (o := .cells #[.int .u64 0, .slice none 0 0, .string (⟨#[]⟩ : ByteArray)] 68 (0, 0)) (by refine bT ?_; refine bR ?_ NB280_287.out _; refine bT ?_; refine bR ?_ NB280_287.out _; refine bT ?_; refine bR ?_ NB280_287.out _; exact bT BK280.out) hb); have n4_ := Ax.mk (bB (g := gb287) (o := .cells #[.int .u64 t281, .slice Ao15 t282.length co15, .string t285] 66 (0, 0)) (by refine bT ?_; refine bU (cs := #[.int .u64 t281, .slice Ao15 t282.length co15, .string (⟨#[]⟩ : ByteArray)]) ?_ 2 _ rfl; refine bT ?_; refine bU (cs := #[.int .u64 t281, .slice none 0 0, .string (⟨#[]⟩ : ByteArray)]) ?_ 1 _ rfl; refine bT ?_; refine bU (cs := #[.int .u64 0, .slice none 0 0, .string (⟨#[]⟩ : ByteArray)]) ?_ 0 _ rfl; exact bT BK287.out) hb); have n5_ := Ax.mk (bP bA hb); clear HO284; clear BK279; clear BK280; clear BK287; clear HB; have HO284 := n0_; have HO290 := n1_; have BK279 := n2_; have BK280 := n3_; have BK287 := n4_; have HB := n5_; clear n0_ n1_ n2_ n3_ n4_ n5_; (try clear hb); (try clear hb2); (try clear hk); (try clear hi); (try clear ho0); obtain ⟨Ao17, co17, eo17⟩ := Kd.R_slice HO290.out; subst eo17) | ((with_reducible refine gate_callee (f := 60) rfl ?_); refine goesL_ (some 28) rfl rfl Tryd.func60 (by kernel_rfl) rfl #[.int .u64 a0, .slice Ao17 t288.length co17] rfl (by (try simp only [List.map_toArray, List.map_cons, List.map_nil]); first | done | rfl | (simp only [List.length_drop, List.length_take]; rfl) | (rw [wrap_sum2 (by assumption)]; rfl)) ?_; (with_reducible refine (r13_New.calls k a0 (fun k_ => some k_ = (.slice Ao17 t288.length co17 : Value).ownBlock) _ _ t288 t291 t292 t295 t296 _ ?side1 A6.out).mono ?_); (case side1 => exact Kd.R_V (Kd.R_tight rfl (Kd.R_types (Kd.R_types (Kd.R_types (Kd.R_apart' (HO290.out) (Kd.N_typed HO284.out) (by decide)) BK279.out (by decide)) BK280.out (by decide)) BK287.out (by decide)))); rintro e w18 ⟨v293, rfl, ho0, hb⟩; refine ⟨_, rfl, ?_⟩; have n0_ := Ax.mk (Kd.N_elder' (by exact Kd.N_to HO284.out) (Kd.N_base ho0) hb); have n1_ := Ax.mk (Kd.R_below (by exact Kd.R_to HO290.out) hb); have n2_ := Ax.mk (Kd.N_lower (Kd.N_mono (ok' := fun k_ => (w.heap.size ≤ k_) ∧ some k_ ≠ (.slice Ao15 t282.length co15 : Value).ownBlock ∧ k_ ≠ gb279 ∧ k_ ≠ gb280 ∧ k_ ≠ gb287) ho0 (fun k_ hk_ => ⟨Or.elim hk_ (fun hs_ => ((Kd.R_types (Kd.R_types (Kd.R_types (Kd.R_apart' (HO290.out) (Kd.N_typed HO284.out) (by decide)) BK279.out (by decide)) BK280.out (by decide)) BK287.out (by decide)).1 k_ hs_.symm).1.1.1.1.1) (fun hn_ => (Nat.le_trans (bS bA) hn_)), Or.elim hk_ (fun hs_ => ((Kd.R_types (Kd.R_types (Kd.R_types (Kd.R_apart' (HO290.out) (Kd.N_typed HO284.out) (by decide)) BK279.out (by decide)) BK280.out (by decide)) BK287.out (by decide)).1 k_ hs_.symm).1.1.1.2) (fun hn_ => (Kd.fresh' (Kd.N_lt (by exact Kd.N_to HO284.out)) k_ hn_)), Or.elim hk_ (fun hs_ => ((Kd.R_types (Kd.R_types (Kd.R_types (Kd.R_apart' (HO290.out) (Kd.N_typed HO284.out) (by decide)) BK279.out (by decide)) BK280.out (by decide)) BK287.out (by decide)).1 k_ hs_.symm).1.1.2) (fun hn_ => (Kd.freshB (g := gb279) (o := .cells #[.int .u64 0, .slice none 0 0, .string (⟨#[]⟩ : ByteArray)] 66 (0, 0)) (bT BK279.out) k_ hn_)), Or.elim hk_ (fun hs_ => ((Kd.R_types (Kd.R_types (Kd.R_types (Kd.R_apart' (HO290.out) (Kd.N_typed HO284.out) (by decide)) BK279.out (by decide)) BK280.out (by decide)) BK287.out (by decide)).1 k_ hs_.symm).1.2) (fun hn_ => (Kd.freshB (g := gb280) (o := .cells #[.int .u64 0, .slice none 0 0, .string (⟨#[]⟩ : ByteArray)] 68 (0, 0)) (bT BK280.out) k_ hn_)), Or.elim hk_ (fun hs_ => ((Kd.R_types (Kd.R_types (Kd.R_types (Kd.R_apart' (HO290.out) (Kd.N_typed HO284.out) (by decide)) BK279.out (by decide)) BK280.out (by decide)) BK287.out (by decide)).1 k_ hs_.symm).2) (fun hn_ => (Kd.freshB (g := gb287) (o := .cells #[.int .u64 t281, .slice Ao15 t282.length co15, .string t285] 66 (0, 0)) (bT BK287.out) k_ hn_))⟩)) (bS bA)); have n3_ := Ax.mk (bB (bT BK279.out) hb); have n4_ := Ax.mk (bB (bT BK280.out) hb); have n5_ := Ax.mk (bB (bT BK287.out) hb); have n6_ := Ax.mk (bP bA hb); clear HO284; clear HO290; clear BK279; clear BK280; clear BK287; clear HB; have HO284 := n0_; have HO290 := n1_; have HO294 := n2_; have BK279 := n3_; have BK280 := n4_; have BK287 := n5_; have HB := n6_; clear n0_ n1_ n2_ n3_ n4_ n5_ n6_; (try clear hb); (try clear hb2); (try clear hk); (try clear hi); (try clear ho0)) | ((with_reducible refine gate_dst (N := 11) rfl ?_); refine box_event ?hg (N := 11) ?hd (cs := #[.int .u64 0, .slice none 0 0, .string (⟨#[]⟩ : ByteArray)]) (t := 68) ?hr ?_; (case hd => rfl); (case hg => rfl); (case hr => first | (go_simp; done) | (go_simp; rfl)); intro gb297 hg w19 hbox hb; have n0_ := Ax.mk (Kd.N_below (Kd.N_elderB (by exact Kd.N_to HO284.out) gb297 (Nat.le_of_eq hg.symm)) hb); have n1_ := Ax.mk (Kd.R_below (by exact Kd.R_to HO290.out) hb); have n2_ := Ax.mk (Kd.N_below (Kd.N_elderB (by exact Kd.N_to HO294.out) gb297 (Nat.le_of_eq hg.symm)) hb); have n3_ := Ax.mk (bB (bT BK279.out) hb); have n4_ := Ax.mk (bB (bT BK280.out) hb); have n5_ := Ax.mk (bB (bT BK287.out) hb); have n6_ := Ax.mk (bP bA hb); have n7_ := Ax.mk (hbox); have n8_ := Ax.mk ((ge_new hg : w.heap.size ≤ gb297)); have n9_ := n8_; have n10_ := Ax.mk ((ne_lt hg BK279.out : gb279 ≠ gb297)); have n11_ := Ax.mk ((ne_gt hg BK279.out : gb297 ≠ gb279)); have n12_ := Ax.mk ((ne_lt hg BK280.out : gb280 ≠ gb297)); have n13_ := Ax.mk ((ne_gt hg BK280.out : gb297 ≠ gb280)); have n14_ := Ax.mk ((ne_lt hg BK287.out : gb287 ≠ gb297)); have n15_ := Ax.mk ((ne_gt hg BK287.out : gb297 ≠ gb287)); clear HO284; clear HO290; clear HO294; clear BK279; clear BK280; clear BK287; clear HB; have HO284 := n0_; have HO290 := n1_; have HO294 := n2_; have BK279 := n3_; have BK280 := n4_; have BK287 := n5_; have HB := n6_; have BK297 := n7_; have GW297 := n8_; have GE297 := n9_; have NB279_297 := n10_; have NB297_279 := n11_; have NB280_297 := n12_; have NB297_280 := n13_; have NB287_297 := n14_; have NB297_287 := n15_; clear n0_ n1_ n2_ n3_ n4_ n5_ n6_ n7_ n8_ n9_ n10_ n11_ n12_ n13_ n14_ n15_; clear hb hbox hg; have hnb20 := NB297_279.out; have hnc20 := NB279_297.out; have hnb21 := NB297_280.out; have hnc21 := NB280_297.out; have hnb22 := NB297_287.out; have hnc22 := NB287_297.out; have hcz23_0 : w19.cell? ⟨gb297, 0, none⟩ = some (.int .u64 0) := (bC BK297.out 0).trans rfl; have hcz23_1 : w19.cell? ⟨gb297, 1, none⟩ = some (.slice none 0 0) := (bC BK297.out 1).trans rfl; have hcz23_2 : w19.cell? ⟨gb297, 2, none⟩ = some (.string (⟨#[]⟩ : ByteArray)) := (bC BK297.out 2).trans rfl; have hfz23_0 := bF BK297.out 0; have hfz23_1 := bF BK297.out 1; have hfz23_2 := bF BK297.out 2; obtain ⟨Ao24, co24, eo24⟩ := Kd.N_slice HO294.out; subst eo24))
 (try simp only [Act.put, sI, sZ, sS])
 go_cut [39] (fun v39 wc => ∃ (kq : Nat) (x39_6 : Bool), v39 = .bool x39_6 ∧ Ax (l13_built.j0 kq l2 x39_6 t281 t282 t285 t291 t292 t295 = some (r1, r2, r3, r4, r5, r6, r7)) ∧ Ax (kq ≤ k) ∧ Ax (Kd.N k44 44 wc w.heap.size (fun k_ => (w.heap.size ≤ k_) ∧ some k_ ≠ ((.slice Ao24 t292.length co24) : Value).ownBlock ∧ k_ ≠ gb279 ∧ k_ ≠ gb280 ∧ k_ ≠ gb287 ∧ k_ ≠ gb297) (.slice Ao15 t282.length co15) t282) ∧ Ax (Kd.N k46 46 wc w.heap.size (fun k_ => (w.heap.size ≤ k_) ∧ some k_ ≠ ((.slice Ao15 t282.length co15) : Value).ownBlock ∧ k_ ≠ gb279 ∧ k_ ≠ gb280 ∧ k_ ≠ gb287 ∧ k_ ≠ gb297) (.slice Ao24 t292.length co24) t292) ∧ Ax (wc.heap[gb279]? = some (.cells #[.int .u64 0, (.slice none 0 0), .string (⟨#[]⟩ : ByteArray)] 66 (0, 0))) ∧ Ax (wc.heap[gb280]? = some (.cells #[.int .u64 0, (.slice none 0 0), .string (⟨#[]⟩ : ByteArray)] 68 (0, 0))) ∧ Ax (wc.heap[gb287]? = some (.cells #[.int .u64 t281, (.slice Ao15 t282.length co15), .string t285] 66 (0, 0))) ∧ Ax (wc.heap[gb297]? = some (.cells #[.int .u64 t291, (.slice Ao24 t292.length co24), .string t295] 68 (0, 0))) ∧ Ax (Below w.heap.size w wc))
 case first =>
  have H := HC7.out
  clear HC7
  by_cases c25 : t286 = t296
  ·rw [if_pos c25] at H
   have c25b0 : (t286 == t296) = true := beq_iff_eq.mpr c25
   have c25b1 : (t286 != t296) = false := bne_eq_false_iff_eq.mpr c25
   clear c25
   (first | rw [c25b0] | (simp only [i64_w, i32_w]; rw [c25b0]) | skip)
   replace H := Option.bind_eq_some_iff.mp H
   obtain ⟨t298, A260, H⟩ := H
   replace H : (l13_built.j0 k l2 (!t298) t281 t282 t285 t291 t292 t295) = some (r1, r2, r3, r4, r5, r6, r7) := H
   have A26 := Ax.mk A260
   clear A260
   have H' := Ax.mk H
   clear H
   have hnb27 := NB287_279.out
   have hnc27 := NB279_287.out
   have hnb28 := NB287_280.out
   have hnc28 := NB280_287.out
   have hnb29 := NB287_297.out
   have hnc29 := NB297_287.out
   have hcz30_0 : w19.cell? ⟨gb287, 0, none⟩ = some (.int .u64 t281) := (bC BK287.out 0).trans rfl
   have hcz30_1 : w19.cell? ⟨gb287, 1, none⟩ = some (.slice Ao15 t282.length co15) := (bC BK287.out 1).trans rfl
   have hcz30_2 : w19.cell? ⟨gb287, 2, none⟩ = some (.string t285) := (bC BK287.out 2).trans rfl
   have hfz30_0 := bF BK287.out 0
   have hfz30_1 := bF BK287.out 1
   have hfz30_2 := bF BK287.out 2
   have hnb31 := NB297_279.out
   have hnc31 := NB279_297.out
   have hnb32 := NB297_280.out
   have hnc32 := NB280_297.out
   have hcz33_0 : w19.cell? ⟨gb297, 0, none⟩ = some (.int .u64 0) := (bC BK297.out 0).trans rfl
   have hcz33_1 : w19.cell? ⟨gb297, 1, none⟩ = some (.slice none 0 0) := (bC BK297.out 1).trans rfl
   have hcz33_2 : w19.cell? ⟨gb297, 2, none⟩ = some (.string (⟨#[]⟩ : ByteArray)) := (bC BK297.out 2).trans rfl
   have hfz33_0 := bF BK297.out 0
   have hfz33_1 := bF BK297.out 1
   have hfz33_2 := bF BK297.out 2
   go_wp2_with (first | (go_at_call 41; (with_reducible refine (l13_same.calls k t281 _ _ t282 t285 t291 _ _ t292 t295 t298 _ ?side1 ?side2 ?side3 ?side4 A26.out).mono ?_); (case side1 => refine (Kd.N_reads' (e := 44) (base := w.heap.size) (ok := fun k_ => ((((((w.heap.size ≤ k_) ∧ (k_ ≠ gb279 ∧ k_ ≠ gb280)) ∧ k_ ≠ gb287) ∧ some k_ ≠ (.slice Ao17 t288.length co17 : Value).ownBlock) ∧ some k_ ≠ (.slice Ao24 t292.length co24 : Value).ownBlock) ∧ k_ ≠ gb297)) (n := t282.length) (c := co15) ?_).2.2; exact (by apply Kd.N_to; exact (Kd.N_mono (Kd.N_far (p := ⟨gb297, 2, none⟩) (Kd.N_far (p := ⟨gb297, 1, none⟩) (Kd.N_far (p := ⟨gb297, 0, none⟩) (Kd.N_mono HO284.out (fun k_ hk => (⟨hk, hk.2⟩ : _ ∧ k_ ≠ gb297))) (fun _ hk => hk.2) (.int .u64 t291)) (fun _ hk => hk.2) (.slice Ao24 t292.length co24)) (fun _ hk => hk.2) (.string t295)) (fun _ h_ => h_.1)))); (case side2 => exact (Kd.N_reads' HO284.out).2.1); (case side3 => refine (Kd.N_reads' (e := 46) (base := w.heap.size) (ok := fun k_ => (((w.heap.size ≤ k_) ∧ (some k_ ≠ (.slice Ao15 t282.length co15 : Value).ownBlock ∧ (k_ ≠ gb279 ∧ (k_ ≠ gb280 ∧ k_ ≠ gb287)))) ∧ k_ ≠ gb297)) (n := t292.length) (c := co24) ?_).2.2; exact (by apply Kd.N_to; exact (Kd.N_mono (Kd.N_far (p := ⟨gb297, 2, none⟩) (Kd.N_far (p := ⟨gb297, 1, none⟩) (Kd.N_far (p := ⟨gb297, 0, none⟩) (Kd.N_mono HO294.out (fun k_ hk => (⟨hk, hk.2⟩ : _ ∧ k_ ≠ gb297))) (fun _ hk => hk.2) (.int .u64 t291)) (fun _ hk => hk.2) (.slice Ao24 t292.length co24)) (fun _ hk => hk.2) (.string t295)) (fun _ h_ => h_.1)))); (case side4 => exact (Kd.N_reads' HO294.out).2.1); rintro e w34 ⟨rfl, hb⟩; have n0_ := Ax.mk (Kd.N_below (by apply Kd.N_to; exact (Kd.N_mono (Kd.N_far (p := ⟨gb297, 2, none⟩) (Kd.N_far (p := ⟨gb297, 1, none⟩) (Kd.N_far (p := ⟨gb297, 0, none⟩) (Kd.N_mono HO284.out (fun k_ hk => (⟨hk, hk.2⟩ : _ ∧ k_ ≠ gb297))) (fun _ hk => hk.2) (.int .u64 t291)) (fun _ hk => hk.2) (.slice Ao24 t292.length co24)) (fun _ hk => hk.2) (.string t295)) (fun _ h_ => h_.1))) hb); have n1_ := Ax.mk (Kd.R_below (by apply Kd.R_to; exact (Kd.R_mono (Kd.R_far (p := ⟨gb297, 2, none⟩) (Kd.R_far (p := ⟨gb297, 1, none⟩) (Kd.R_far (p := ⟨gb297, 0, none⟩) (Kd.R_types HO290.out BK297.out (by decide)) (fun _ hk => hk.2) (.int .u64 t291)) (fun _ hk => hk.2) (.slice Ao24 t292.length co24)) (fun _ hk => hk.2) (.string t295)) (fun _ h_ => h_.1))) hb); have n2_ := Ax.mk (Kd.N_below (by apply Kd.N_to; exact (Kd.N_mono (Kd.N_far (p := ⟨gb297, 2, none⟩) (Kd.N_far (p := ⟨gb297, 1, none⟩) (Kd.N_far (p := ⟨gb297, 0, none⟩) (Kd.N_mono HO294.out (fun k_ hk => (⟨hk, hk.2⟩ : _ ∧ k_ ≠ gb297))) (fun _ hk => hk.2) (.int .u64 t291)) (fun _ hk => hk.2) (.slice Ao24 t292.length co24)) (fun _ hk => hk.2) (.string t295)) (fun _ h_ => h_.1))) hb); have n3_ := Ax.mk (bB (g := gb279) (o := .cells #[.int .u64 0, .slice none 0 0, .string (⟨#[]⟩ : ByteArray)] 66 (0, 0)) (by refine bT ?_; refine bR ?_ NB279_297.out _; refine bT ?_; refine bR ?_ NB279_297.out _; refine bT ?_; refine bR ?_ NB279_297.out _; exact bT BK279.out) hb); have n4_ := Ax.mk (bB (g := gb280) (o := .cells #[.int .u64 0, .slice none 0 0, .string (⟨#[]⟩ : ByteArray)] 68 (0, 0)) (by refine bT ?_; refine bR ?_ NB280_297.out _; refine bT ?_; refine bR ?_ NB280_297.out _; refine bT ?_; refine bR ?_ NB280_297.out _; exact bT BK280.out) hb); have n5_ := Ax.mk (bB (g := gb287) (o := .cells #[.int .u64 t281, .slice Ao15 t282.length co15, .string t285] 66 (0, 0)) (by refine bT ?_; refine bR ?_ NB287_297.out _; refine bT ?_; refine bR ?_ NB287_297.out _; refine bT ?_; refine bR ?_ NB287_297.out _; exact bT BK287.out) hb); have n6_ := Ax.mk (bB (g := gb297) (o := .cells #[.int .u64 t291, .slice Ao24 t292.length co24, .string t295] 68 (0, 0)) (by refine bT ?_; refine bU (cs := #[.int .u64 t291, .slice Ao24 t292.length co24, .string (⟨#[]⟩ : ByteArray)]) ?_ 2 _ rfl; refine bT ?_; refine bU (cs := #[.int .u64 t291, .slice none 0 0, .string (⟨#[]⟩ : ByteArray)]) ?_ 1 _ rfl; refine bT ?_; refine bU (cs := #[.int .u64 0, .slice none 0 0, .string (⟨#[]⟩ : ByteArray)]) ?_ 0 _ rfl; exact bT BK297.out) hb); have n7_ := Ax.mk (bP bA hb); clear HO284; clear HO290; clear HO294; clear BK279; clear BK280; clear BK287; clear BK297; clear HB; have HO284 := n0_; have HO290 := n1_; have HO294 := n2_; have BK279 := n3_; have BK280 := n4_; have BK287 := n5_; have BK297 := n6_; have HB := n7_; clear n0_ n1_ n2_ n3_ n4_ n5_ n6_ n7_; (try clear hb); (try clear hb2); (try clear hk); (try clear hi)))
   go_meet
   case rel => exact ⟨_, (!t298), (by first | rfl | (simp; done) | (simp [*]; done)), H', ⟨by first | omega | exact Nat.le_refl _⟩, ⟨by apply Kd.N_to; exact Kd.N_mono HO284.out (fun _ hk => ⟨hk.1.1.1.1.1, ⟨hk.1.2, ⟨hk.1.1.1.1.2.1, ⟨hk.1.1.1.1.2.2, ⟨hk.1.1.1.2, hk.2⟩⟩⟩⟩⟩)⟩, ⟨by apply Kd.N_to; exact Kd.N_mono HO294.out (fun _ hk => ⟨hk.1.1, ⟨hk.1.2.1, ⟨hk.1.2.2.1, ⟨hk.1.2.2.2.1, ⟨hk.1.2.2.2.2, hk.2⟩⟩⟩⟩⟩)⟩, ⟨by refine bT ?_; exact BK279.out⟩, ⟨by refine bT ?_; exact BK280.out⟩, ⟨by refine bT ?_; exact BK287.out⟩, ⟨by refine bT ?_; exact BK297.out⟩, ⟨bA⟩⟩
  ·rw [if_neg c25] at H
   have c25b0 : (t286 == t296) = false := beq_eq_false_iff_ne.mpr c25
   have c25b1 : (t286 != t296) = true := bne_iff_ne.mpr c25
   (first | rw [c25b0] | (simp only [i64_w, i32_w]; rw [c25b0]) | skip)
   have H' := Ax.mk H
   clear H
   go_wp2
   go_meet
   case rel => exact ⟨_, (true), (by first | rfl | (simp; done) | (simp [*]; done)), H', ⟨by first | omega | exact Nat.le_refl _⟩, ⟨by apply Kd.N_to; exact Kd.N_mono (Kd.N_far (p := ⟨gb297, 2, none⟩) (Kd.N_far (p := ⟨gb297, 1, none⟩) (Kd.N_far (p := ⟨gb297, 0, none⟩) (Kd.N_mono HO284.out (fun k_ hk => (⟨hk, hk.2⟩ : _ ∧ k_ ≠ gb297))) (fun _ hk => hk.2) (.int .u64 t291)) (fun _ hk => hk.2) (.slice Ao24 t292.length co24)) (fun _ hk => hk.2) (.string t295)) (fun _ hk => ⟨hk.1.1.1.1.1.1, ⟨hk.1.1.2, ⟨hk.1.1.1.1.1.2.1, ⟨hk.1.1.1.1.1.2.2, ⟨hk.1.1.1.1.2, hk.1.2⟩⟩⟩⟩⟩)⟩, ⟨by apply Kd.N_to; exact Kd.N_mono (Kd.N_far (p := ⟨gb297, 2, none⟩) (Kd.N_far (p := ⟨gb297, 1, none⟩) (Kd.N_far (p := ⟨gb297, 0, none⟩) (Kd.N_mono HO294.out (fun k_ hk => (⟨hk, hk.2⟩ : _ ∧ k_ ≠ gb297))) (fun _ hk => hk.2) (.int .u64 t291)) (fun _ hk => hk.2) (.slice Ao24 t292.length co24)) (fun _ hk => hk.2) (.string t295)) (fun _ hk => ⟨hk.1.1.1, ⟨hk.1.1.2.1, ⟨hk.1.1.2.2.1, ⟨hk.1.1.2.2.2.1, ⟨hk.1.1.2.2.2.2, hk.1.2⟩⟩⟩⟩⟩)⟩, ⟨by refine bT ?_; refine bR ?_ NB279_297.out _; refine bT ?_; refine bR ?_ NB279_297.out _; refine bT ?_; refine bR ?_ NB279_297.out _; refine bT ?_; exact BK279.out⟩, ⟨by refine bT ?_; refine bR ?_ NB280_297.out _; refine bT ?_; refine bR ?_ NB280_297.out _; refine bT ?_; refine bR ?_ NB280_297.out _; refine bT ?_; exact BK280.out⟩, ⟨by refine bT ?_; refine bR ?_ NB287_297.out _; refine bT ?_; refine bR ?_ NB287_297.out _; refine bT ?_; refine bR ?_ NB287_297.out _; refine bT ?_; exact BK287.out⟩, ⟨by refine bT ?_; refine bU (cs := #[.int .u64 t291, .slice Ao24 t292.length co24, .string (⟨#[]⟩ : ByteArray)]) ?_ 2 _ rfl; refine bT ?_; refine bU (cs := #[.int .u64 t291, .slice none 0 0, .string (⟨#[]⟩ : ByteArray)]) ?_ 1 _ rfl; refine bT ?_; refine bU (cs := #[.int .u64 0, .slice none 0 0, .string (⟨#[]⟩ : ByteArray)]) ?_ 0 _ rfl; refine bT ?_; exact BK297.out⟩, ⟨bA⟩⟩
 case rest =>
  clear HC7
  try clear c1
  try clear c2
  try clear p2
  try clear c3
  try clear c4
  try clear c6
  try clear c12
  try clear c13
  try clear c20
  try clear c21
  try clear c22
  try clear c25
  try clear c25b0
  try clear c25b1
  try clear c27
  try clear c28
  try clear c29
  try clear c31
  try clear c32
  try clear c34
  try clear hcz14_0
  try clear hcz14_1
  try clear hcz14_2
  try clear hcz23_0
  try clear hcz23_1
  try clear hcz23_2
  try clear hcz30_0
  try clear hcz30_1
  try clear hcz30_2
  try clear hcz33_0
  try clear hcz33_1
  try clear hcz33_2
  try clear hfz14_0
  try clear hfz14_1
  try clear hfz14_2
  try clear hfz23_0
  try clear hfz23_1
  try clear hfz23_2
  try clear hfz30_0
  try clear hfz30_1
  try clear hfz30_2
  try clear hfz33_0
  try clear hfz33_1
  try clear hfz33_2
  obtain ⟨kq, x39_6, rfl, HA, HJ6, HO_288001, HO_298001, BK279, BK280, BK287, BK297, HB⟩ := hcut
  cases kq with
  | zero => exact absurd HA.out (by simp [l13_built.j0])
  | succ kj6 =>
   have H := HA.out
   clear HA
   simp only [l13_built.j0] at H
   by_cases c35 : x39_6 = true
   ·subst c35
    have H1 : (none) = some (r1, r2, r3, r4, r5, r6, r7) := by rw [if_pos rfl] at H; exact H
    clear H
    have H := H1
    clear H1
    exact absurd H (by simp)
   ·replace c35 := Bool.eq_false_iff.mpr c35
    subst c35
    have H1 : (l13_built.l0 kj6 l2 0 t281 t282 t285 t291 t292 t295) = some (r1, r2, r3, r4, r5, r6, r7) := by rw [if_neg (show ¬ (false = true) by decide)] at H; exact H
    clear H
    have H := H1
    clear H1
    have H' := Ax.mk H
    clear H
    go_wp2
    go_loopg [13] kj6 (fun kq v13 w' => ∃ (x13_2 : Int) (x280000_2 : Int) (x280002_2 : ByteArray) (x281000_2 : Int) (x281002_2 : ByteArray) (x288000_2 : Int) (x288001_2 : List (S44)) (x288002_2 : ByteArray) (x298000_2 : Int) (x298001_2 : List (S46)) (x298002_2 : ByteArray) (u288001 : Value) (u298001 : Value), v13 = .int .i64 x13_2 ∧ Ax (l13_built.l0 kq l2 x13_2 x288000_2 x288001_2 x288002_2 x298000_2 x298001_2 x298002_2 = some (r1, r2, r3, r4, r5, r6, r7)) ∧ Ax (kq ≤ kj6) ∧ Ax (Kd.N k44 44 w' w.heap.size (fun k_ => (w.heap.size ≤ k_) ∧ some k_ ≠ (u298001 : Value).ownBlock ∧ k_ ≠ gb279 ∧ k_ ≠ gb280 ∧ k_ ≠ gb287 ∧ k_ ≠ gb297) u288001 x288001_2) ∧ Ax (Kd.N k46 46 w' w.heap.size (fun k_ => (w.heap.size ≤ k_) ∧ some k_ ≠ (u288001 : Value).ownBlock ∧ k_ ≠ gb279 ∧ k_ ≠ gb280 ∧ k_ ≠ gb287 ∧ k_ ≠ gb297) u298001 x298001_2) ∧ Ax (w'.heap[gb279]? = some (.cells #[.int .u64 x280000_2, (.slice none 0 0), .string x280002_2] 66 (0, 0))) ∧ Ax (w'.heap[gb280]? = some (.cells #[.int .u64 x281000_2, (.slice none 0 0), .string x281002_2] 68 (0, 0))) ∧ Ax (w'.heap[gb287]? = some (.cells #[.int .u64 x288000_2, u288001, .string x288002_2] 66 (0, 0))) ∧ Ax (w'.heap[gb297]? = some (.cells #[.int .u64 x298000_2, u298001, .string x298002_2] 68 (0, 0))) ∧ Ax (Below w.heap.size w w'))
    case atStart => exact ⟨(0), (0), ((⟨#[]⟩ : ByteArray)), (0), ((⟨#[]⟩ : ByteArray)), (t281), (t282), (t285), (t291), (t292), (t295), (.slice Ao15 t282.length co15), (.slice Ao24 t292.length co24), (by first | rfl | (simp; done) | (simp [*]; done)), H', ⟨Nat.le_refl _⟩, ⟨by apply Kd.N_to; exact HO_288001.out⟩, ⟨by apply Kd.N_to; exact HO_298001.out⟩, ⟨by refine bT ?_; exact BK279.out⟩, ⟨by refine bT ?_; exact BK280.out⟩, ⟨by refine bT ?_; exact BK287.out⟩, ⟨by refine bT ?_; exact BK297.out⟩, ⟨bA⟩⟩
    case round =>
     clear H'
     try clear c1
     try clear c2
     try clear p2
     try clear c3
     try clear c4
     try clear c6
     try clear c12
     try clear c13
     try clear c20
     try clear c21
     try clear c22
     try clear c25
     try clear c25b0
     try clear c25b1
     try clear c27
     try clear c28
     try clear c29
     try clear c31
     try clear c32
     try clear c34
     try clear c35
     try clear hcz14_0
     try clear hcz14_1
     try clear hcz14_2
     try clear hcz23_0
     try clear hcz23_1
     try clear hcz23_2
     try clear hcz30_0
     try clear hcz30_1
     try clear hcz30_2
     try clear hcz33_0
     try clear hcz33_1
     try clear hcz33_2
     try clear hfz14_0
     try clear hfz14_1
     try clear hfz14_2
     try clear hfz23_0
     try clear hfz23_1
     try clear hfz23_2
     try clear hfz30_0
     try clear hfz30_1
     try clear hfz30_2
     try clear hfz33_0
     try clear hfz33_1
     try clear hfz33_2
     try clear p2
     obtain ⟨x13_2, x280000_2, x280002_2, x281000_2, x281002_2, x288000_2, x288001_2, x288002_2, x298000_2, x298001_2, x298002_2, u288001, u298001, rfl, HA, HK2, HO_288001, HO_298001, BK279, BK280, BK287, BK297, HB⟩ := hrel
     cases gk with
     | zero => exact absurd HA.out (by simp [l13_built.l0])
     | succ k2 =>
      have H := HA.out
      clear HA
      simp only [l13_built.l0] at H
      by_cases c36 : x13_2 < (l2.length : Int)
      ·rw [if_pos c36] at H
       have c36b0 : decide (x13_2 < (l2.length : Int)) = true := decide_eq_true c36
       clear c36
       by_cases c37 : 0 ≤ x13_2
       ·rw [if_pos c37] at H
        have c37b0 : decide (0 ≤ x13_2) = true := decide_eq_true c37
        clear c37
        replace H := Option.bind_eq_some_iff.mp H
        obtain ⟨⟨t300, t301, t304, t305⟩, A380, H⟩ := H
        replace H : ((l13_steps.f k2 (rd_L4 l2 x13_2)).bind fun t308 => ((r13_Add.f k2 x298000_2 x298001_2 x298002_2 t308).bind fun bt311 => (if t305 = bt311.2.2.2 then ((l13_same.f k2 t300 t301 t304 bt311.1 bt311.2.1 bt311.2.2.1).bind fun t318 => (l13_built.j2 k2 l2 x13_2 t305 (!t318) x288000_2 x288001_2 x288002_2 x298000_2 x298001_2 x298002_2 t300 t301 t304 bt311.1 bt311.2.1 bt311.2.2.1)) else (l13_built.j2 k2 l2 x13_2 t305 true x288000_2 x288001_2 x288002_2 x298000_2 x298001_2 x298002_2 t300 t301 t304 bt311.1 bt311.2.1 bt311.2.2.1)))) = some (r1, r2, r3, r4, r5, r6, r7) := H
        have A38 := Ax.mk A380
        clear A380
        replace H := Option.bind_eq_some_iff.mp H
        obtain ⟨t308, A390, H⟩ := H
        replace H : ((r13_Add.f k2 x298000_2 x298001_2 x298002_2 t308).bind fun bt311 => (if t305 = bt311.2.2.2 then ((l13_same.f k2 t300 t301 t304 bt311.1 bt311.2.1 bt311.2.2.1).bind fun t318 => (l13_built.j2 k2 l2 x13_2 t305 (!t318) x288000_2 x288001_2 x288002_2 x298000_2 x298001_2 x298002_2 t300 t301 t304 bt311.1 bt311.2.1 bt311.2.2.1)) else (l13_built.j2 k2 l2 x13_2 t305 true x288000_2 x288001_2 x288002_2 x298000_2 x298001_2 x298002_2 t300 t301 t304 bt311.1 bt311.2.1 bt311.2.2.1))) = some (r1, r2, r3, r4, r5, r6, r7) := H
        have A39 := Ax.mk A390
        clear A390
        replace H := Option.bind_eq_some_iff.mp H
        obtain ⟨⟨t311, t312, t315, t316⟩, A400, H⟩ := H
        replace H : (if t305 = t316 then ((l13_same.f k2 t300 t301 t304 t311 t312 t315).bind fun t318 => (l13_built.j2 k2 l2 x13_2 t305 (!t318) x288000_2 x288001_2 x288002_2 x298000_2 x298001_2 x298002_2 t300 t301 t304 t311 t312 t315)) else (l13_built.j2 k2 l2 x13_2 t305 true x288000_2 x288001_2 x288002_2 x298000_2 x298001_2 x298002_2 t300 t301 t304 t311 t312 t315)) = some (r1, r2, r3, r4, r5, r6, r7) := H
        have A40 := Ax.mk A400
        clear A400
        have HC41 := Ax.mk H
        clear H
        obtain ⟨Ao42, co42, eo42⟩ := Kd.N_slice HO_288001.out
        subst eo42
        try go_wp2
        have n0_ := Ax.mk (Kd.N_drew HO_288001.out)
        have n1_ := Ax.mk (Kd.N_drew HO_298001.out)
        have n2_ := Ax.mk (blk_drew BK279.out)
        have n3_ := Ax.mk (blk_drew BK280.out)
        have n4_ := Ax.mk (blk_drew BK287.out)
        have n5_ := Ax.mk (blk_drew BK297.out)
        have n6_ := Ax.mk (below_drew1 HB.out)
        clear HO_288001
        clear HO_298001
        clear BK279
        clear BK280
        clear BK287
        clear BK297
        clear HB
        have HO_288001 := n0_
        have HO_298001 := n1_
        have BK279 := n2_
        have BK280 := n3_
        have BK287 := n4_
        have BK297 := n5_
        have HB := n6_
        clear n0_ n1_ n2_ n3_ n4_ n5_ n6_
        have p299 : 0 ≤ (x13_2 : Int) := of_decide_eq_true (by first | (with_reducible assumption) | assumption)
        have q299 : x13_2 < (l2.length : Int) := of_decide_eq_true (by first | (with_reducible assumption) | assumption)
        obtain ⟨ad299, A299_0, c299_0, e299, hx299_0, hl299_0, hi299_0⟩ := at_L4 HR2.out x13_2 p299 q299
        have hw299_0 := hx299_0
        cases e299
        replace hx299_0 := (HB.out.cell (World.block_lt_of_cell? w _ hx299_0)).trans hx299_0
        have HR299_0 := Ax.mk hi299_0
        have HC299_0 := Ax.mk hl299_0
        clear hi299_0 hl299_0
        replace p299 := eq_true p299
        replace q299 := eq_true q299
        refine start_ (n := 12) (S := fun w' => w'.cell? ⟨gb287, 0, none⟩ = some (.int .u64 x288000_2) ∧ w'.cell? ⟨gb287, 1, none⟩ = some (.slice Ao42 x288001_2.length co42) ∧ w'.cell? ⟨gb287, 2, none⟩ = some (.string x288002_2) ∧ w'.cell? (ad299.add (x13_2).toNat) = some (.slice A299_0 (rd_L4 l2 x13_2).length c299_0)) (ds := []) (TF 0 12) (by kernel_rfl) rfl rfl ⟨(bC BK287.out 0).trans rfl, (bC BK287.out 1).trans rfl, (bC BK287.out 2).trans rfl, ((HB.out.cell (World.block_lt_of_cell? w _ hw299_0)).trans hw299_0)⟩ (fun hHeld => ?_); refine with_tabW l13_built.tab8 l13_built.bits8 (fun HT_ HW_ => ?_)
        generalize wr.drew = w43 at HO_288001 HO_298001 BK279 BK280 BK287 BK297 HB HR299_0 hx299_0 hHeld ⊢
        refine pure_ (i := 1) (N := some 50) (v := ?_) (a' := ?_) #[false, true, false, false, false, false, false, false, false, false, false, false] rfl rfl (any_of HT_.out (by kernel_rfl)) (fun _ _ _ h => h) (Or.inl ⟨by rfl, ?_⟩) ?_ ?_
        rotate_left; · intro w'; go_simp; with_reducible rfl
        rotate_left; · simp only [Act.put, sI, sZ, sS, i64_w, i32_w]; rfl
        refine pure_ (i := 2) (N := some 51) (v := ?_) (a' := ?_) #[false, true, true, false, false, false, false, false, false, false, false, false] rfl rfl (any_of HT_.out (by kernel_rfl)) (fun _ _ _ h => h) (Or.inl ⟨by rfl, ?_⟩) ?_ ?_
        rotate_left; · intro w'; go_simp; with_reducible rfl
        rotate_left; · simp only [Act.put, sI, sZ, sS, i64_w, i32_w]; rfl
        refine pure_ (i := 3) (N := some 52) (v := ?_) (a' := ?_) #[false, true, true, true, false, false, false, false, false, false, false, false] rfl rfl (any_of HT_.out (by kernel_rfl)) (fun _ _ _ h => h) (Or.inl ⟨by rfl, ?_⟩) ?_ ?_
        rotate_left; · intro w'; go_simp; with_reducible rfl
        rotate_left; · simp only [Act.put, sI, sZ, sS, i64_w, i32_w]; rfl
        refine take_ (i := 0) (N := some 49) (v := ?_) (a' := ?_) (TF 4 8) rfl rfl (take_ofW HT_.out HW_.out (by kernel_rfl)) (fun _ _ _ h => h) (Or.inl ⟨by rfl, ?_⟩) hHeld ?_ ?_
        rotate_left
        ·rintro w' ⟨s0, s1, s2, s3⟩
         go_simp
         with_reducible rfl
        rotate_left
        ·simp only [Act.put, sI, sZ, sS, i64_w, i32_w]
         rfl
        refine take_ (i := 4) (N := some 53) (v := ?_) (a' := ?_) (TF 5 7) rfl rfl (take_ofW HT_.out HW_.out (by kernel_rfl)) (fun _ _ _ h => h) (Or.inl ⟨by rfl, ?_⟩) hHeld ?_ ?_
        rotate_left
        ·rintro w' ⟨s0, s1, s2, s3⟩
         go_simp
         with_reducible rfl
        rotate_left
        ·simp only [Act.put, sI, sZ, sS, i64_w, i32_w]
         rfl
        refine join_ (σ := Value × Nat) 2 (TF 10 2) (fun s_ => [(54, .tuple #[.agg #[.int .u64 t300, s_.1, .string t304], .int .i64 t305]), (14, .pointer (some ⟨s_.2, 0, none⟩)), (48, .tuple #[.agg #[.int .u64 t300, s_.1, .string t304], .int .i64 t305]), (55, .agg #[.int .u64 t300, s_.1, .string t304]), (56, .int .i64 t305)]) (fun s_ w' => (w'.cell? ⟨gb287, 0, none⟩ = some (.int .u64 x288000_2) ∧ w'.cell? ⟨gb287, 1, none⟩ = some (.slice Ao42 x288001_2.length co42) ∧ w'.cell? ⟨gb287, 2, none⟩ = some (.string x288002_2) ∧ w'.cell? (ad299.add (x13_2).toNat) = some (.slice A299_0 (rd_L4 l2 x13_2).length c299_0)) ∧ (Kd.N k44 44 w' w.heap.size (fun k_ => (w.heap.size ≤ k_) ∧ some k_ ≠ (u298001 : Value).ownBlock ∧ k_ ≠ gb279 ∧ k_ ≠ gb280 ∧ k_ ≠ gb287 ∧ k_ ≠ gb297 ∧ k_ ≠ s_.2) s_.1 t301) ∧ (Kd.N k44 44 w' w.heap.size (fun k_ => (w.heap.size ≤ k_) ∧ some k_ ≠ (s_.1 : Value).ownBlock ∧ some k_ ≠ (u298001 : Value).ownBlock ∧ k_ ≠ gb279 ∧ k_ ≠ gb280 ∧ k_ ≠ gb287 ∧ k_ ≠ gb297 ∧ k_ ≠ s_.2) (.slice Ao42 x288001_2.length co42) x288001_2) ∧ (Kd.N k46 46 w' w.heap.size (fun k_ => (w.heap.size ≤ k_) ∧ some k_ ≠ (s_.1 : Value).ownBlock ∧ some k_ ≠ (.slice Ao42 x288001_2.length co42 : Value).ownBlock ∧ k_ ≠ gb279 ∧ k_ ≠ gb280 ∧ k_ ≠ gb287 ∧ k_ ≠ gb297 ∧ k_ ≠ s_.2) u298001 x298001_2) ∧ (w'.heap[gb279]? = some (.cells #[.int .u64 x280000_2, .slice none 0 0, .string x280002_2] 66 (0, 0))) ∧ (w'.heap[gb280]? = some (.cells #[.int .u64 x281000_2, .slice none 0 0, .string x281002_2] 68 (0, 0))) ∧ (w'.heap[gb287]? = some (.cells #[.int .u64 x288000_2, .slice Ao42 x288001_2.length co42, .string x288002_2] 66 (0, 0))) ∧ (w'.heap[gb297]? = some (.cells #[.int .u64 x298000_2, u298001, .string x298002_2] 68 (0, 0))) ∧ (w'.heap[s_.2]? = some (.cells #[.int .u64 0, .slice none 0 0, .string (⟨#[]⟩ : ByteArray)] 66 (0, 0))) ∧ (w.heap.size ≤ s_.2) ∧ (w.heap.size ≤ s_.2) ∧ (gb279 ≠ s_.2) ∧ (s_.2 ≠ gb279) ∧ (gb280 ≠ s_.2) ∧ (s_.2 ≠ gb280) ∧ (gb287 ≠ s_.2) ∧ (s_.2 ≠ gb287) ∧ (gb297 ≠ s_.2) ∧ (s_.2 ≠ gb297) ∧ (Below w.heap.size w w')) ?_ ?_
        rotate_left
        ·intro hCont
         refine two_ (i := 5) (j := 9) (Ni := some 54) (Nj := some 14) (TF 6 6) #[true, true, true, true, true, false, false, false, false, true, false, false] rfl rfl rfl rfl (two_of HT_.out (by kernel_rfl)) (by decide) (by decide) (fun K hK => ?_) (fun K hK => ?_)
         ·skip
          refine goes_ Tryd.func39 (by kernel_rfl) rfl #[.agg #[.int .u64 x288000_2, .slice Ao42 x288001_2.length co42, .string x288002_2], .slice A299_0 (rd_L4 l2 x13_2).length c299_0] (by rfl) rfl rfl (by (try simp only [List.map_toArray, List.map_cons, List.map_nil]); first | done | rfl | (simp only [List.length_drop, List.length_take]; rfl) | (rw [wrap_sum2 (by assumption)]; rfl)) ?_
          with_reducible refine (journal_Add.calls k2 x288000_2 (fun k_ => ((w.heap.size ≤ k_) ∧ (some k_ ≠ (u298001 : Value).ownBlock ∧ (k_ ≠ gb279 ∧ (k_ ≠ gb280 ∧ (k_ ≠ gb287 ∧ k_ ≠ gb297)))))) _ _ x288001_2 x288002_2 _ _ (rd_L4 l2 x13_2) t300 t301 t304 t305 _ ?side1 ?side2 ?side3 A38.out (HT.below bA)).mono ?_
          (case side1 => exact Kd.N_V (HO_288001.out))
          (case side2 => repeat (first | exact (Kd.C_below HR299_0.out HB.out) | (with_reducible refine Kd.C_alloc ?_ _) | (with_reducible refine Kd.C_drewN ?_ _) | (with_reducible refine Kd.C_drew ?_)))
          (case side3 => exact HC299_0.out)
          rintro e w44 ⟨v302, rfl, ho0, hb⟩
          refine ⟨_, rfl, ?_⟩
          have n0_ := Ax.mk (Kd.N_elder' (by exact Kd.N_to HO_288001.out) (Kd.N_base ho0) hb)
          have n1_ := Ax.mk (Kd.N_elder' (by exact Kd.N_to HO_298001.out) (Kd.N_base ho0) hb)
          have n2_ := Ax.mk (Kd.N_lower (Kd.N_mono (ok' := fun k_ => (w.heap.size ≤ k_) ∧ some k_ ≠ (u298001 : Value).ownBlock ∧ k_ ≠ gb279 ∧ k_ ≠ gb280 ∧ k_ ≠ gb287 ∧ k_ ≠ gb297) ho0 (fun k_ hk_ => ⟨Or.elim hk_ (fun hs_ => hs_.1) (fun hn_ => (Nat.le_trans (bS bA) hn_)), Or.elim hk_ (fun hs_ => hs_.2.1) (fun hn_ => (Kd.fresh' (Kd.N_lt (by exact Kd.N_to HO_298001.out)) k_ hn_)), Or.elim hk_ (fun hs_ => hs_.2.2.1) (fun hn_ => (Kd.freshB (g := gb279) (o := .cells #[.int .u64 x280000_2, .slice none 0 0, .string x280002_2] 66 (0, 0)) (bT BK279.out) k_ hn_)), Or.elim hk_ (fun hs_ => hs_.2.2.2.1) (fun hn_ => (Kd.freshB (g := gb280) (o := .cells #[.int .u64 x281000_2, .slice none 0 0, .string x281002_2] 68 (0, 0)) (bT BK280.out) k_ hn_)), Or.elim hk_ (fun hs_ => hs_.2.2.2.2.1) (fun hn_ => (Kd.freshB (g := gb287) (o := .cells #[.int .u64 x288000_2, .slice Ao42 x288001_2.length co42, .string x288002_2] 66 (0, 0)) (bT BK287.out) k_ hn_)), Or.elim hk_ (fun hs_ => hs_.2.2.2.2.2) (fun hn_ => (Kd.freshB (g := gb297) (o := .cells #[.int .u64 x298000_2, u298001, .string x298002_2] 68 (0, 0)) (bT BK297.out) k_ hn_))⟩)) (bS bA))
          have n3_ := Ax.mk (bB (bT BK279.out) hb)
          have n4_ := Ax.mk (bB (bT BK280.out) hb)
          have n5_ := Ax.mk (bB (bT BK287.out) hb)
          have n6_ := Ax.mk (bB (bT BK297.out) hb)
          have n7_ := Ax.mk (bP bA hb)
          clear HO_288001
          clear HO_298001
          clear BK279
          clear BK280
          clear BK287
          clear BK297
          clear HB
          have HO_288001 := n0_
          have HO_298001 := n1_
          have HO303 := n2_
          have BK279 := n3_
          have BK280 := n4_
          have BK287 := n5_
          have BK297 := n6_
          have HB := n7_
          clear n0_ n1_ n2_ n3_ n4_ n5_ n6_ n7_
          (try clear hb)
          (try clear hb2)
          (try clear hk)
          (try clear hi)
          (try clear ho0)
          refine hK.out _ _ ⟨(bC BK287.out 0).trans rfl, (bC BK287.out 1).trans rfl, (bC BK287.out 2).trans rfl, ((HB.out.cell (World.block_lt_of_cell? w _ hw299_0)).trans hw299_0)⟩ (fun hHeld => ?_)
          clear hK K
          refine norm_ (a' := ?_) ?_ ?_
          rotate_left
          ·show Act.put _ (some 54) _ = _
           simp only [Act.put, sI, sZ, sS, i64_w, i32_w]
           rfl
          refine pure_ (i := 6) (N := some 48) (v := ?_) (a' := ?_) (TF 7 5) rfl rfl (any_of HT_.out (by kernel_rfl)) (fun _ _ _ h => h) (Or.inl ⟨by rfl, ?_⟩) ?_ ?_
          rotate_left; · intro w'; go_simp; with_reducible rfl
          rotate_left; · simp only [Act.put, sI, sZ, sS, i64_w, i32_w]; rfl
          refine pure_ (i := 7) (N := some 55) (v := ?_) (a' := ?_) (TF 8 4) rfl rfl (any_of HT_.out (by kernel_rfl)) (fun _ _ _ h => h) (Or.inl ⟨by rfl, ?_⟩) ?_ ?_
          rotate_left; · intro w'; go_simp; with_reducible rfl
          rotate_left; · simp only [Act.put, sI, sZ, sS, i64_w, i32_w]; rfl
          refine pure_ (i := 8) (N := some 56) (v := ?_) (a' := ?_) (TF 9 3) rfl rfl (any_of HT_.out (by kernel_rfl)) (fun _ _ _ h => h) (Or.inl ⟨by rfl, ?_⟩) ?_ ?_
          rotate_left; · intro w'; go_simp; with_reducible rfl
          rotate_left; · simp only [Act.put, sI, sZ, sS, i64_w, i32_w]; rfl
          refine one_ (i := 9) (N := some 14) (TF 10 2) rfl rfl (one_of HT_.out (by kernel_rfl)) (by decide) (fun K hK => ?_)
          refine box_step ?hg (N := 14) ?hd (cs := #[.int .u64 0, .slice none 0 0, .string (⟨#[]⟩ : ByteArray)]) (t := 66) ?hr ?_; (case hd => rfl); (case hg => rfl); (case hr => first | (go_simp; done) | (go_simp; rfl))
          intro gb306 hg w45 hbox hb
          have n0_ := Ax.mk (Kd.N_below (Kd.N_elderB (by exact Kd.N_to HO_288001.out) gb306 (Nat.le_of_eq hg.symm)) hb)
          have n1_ := Ax.mk (Kd.N_below (Kd.N_elderB (by exact Kd.N_to HO_298001.out) gb306 (Nat.le_of_eq hg.symm)) hb)
          have n2_ := Ax.mk (Kd.N_below (Kd.N_elderB (by exact Kd.N_to HO303.out) gb306 (Nat.le_of_eq hg.symm)) hb)
          have n3_ := Ax.mk (bB (bT BK279.out) hb)
          have n4_ := Ax.mk (bB (bT BK280.out) hb)
          have n5_ := Ax.mk (bB (bT BK287.out) hb)
          have n6_ := Ax.mk (bB (bT BK297.out) hb)
          have n7_ := Ax.mk (bP bA hb)
          have n8_ := Ax.mk (hbox)
          have n9_ := Ax.mk ((ge_new hg : w.heap.size ≤ gb306))
          have n10_ := Ax.mk ((ge_new hg : w.heap.size ≤ gb306))
          have n11_ := Ax.mk ((ne_lt hg BK279.out : gb279 ≠ gb306))
          have n12_ := Ax.mk ((ne_gt hg BK279.out : gb306 ≠ gb279))
          have n13_ := Ax.mk ((ne_lt hg BK280.out : gb280 ≠ gb306))
          have n14_ := Ax.mk ((ne_gt hg BK280.out : gb306 ≠ gb280))
          have n15_ := Ax.mk ((ne_lt hg BK287.out : gb287 ≠ gb306))
          have n16_ := Ax.mk ((ne_gt hg BK287.out : gb306 ≠ gb287))
          have n17_ := Ax.mk ((ne_lt hg BK297.out : gb297 ≠ gb306))
          have n18_ := Ax.mk ((ne_gt hg BK297.out : gb306 ≠ gb297))
          clear HO_288001
          clear HO_298001
          clear HO303
          clear BK279
          clear BK280
          clear BK287
          clear BK297
          clear HB
          have HO_288001 := n0_
          have HO_298001 := n1_
          have HO303 := n2_
          have BK279 := n3_
          have BK280 := n4_
          have BK287 := n5_
          have BK297 := n6_
          have HB := n7_
          have BK306 := n8_
          have GW306 := n9_
          have GE306 := n10_
          have NB279_306 := n11_
          have NB306_279 := n12_
          have NB280_306 := n13_
          have NB306_280 := n14_
          have NB287_306 := n15_
          have NB306_287 := n16_
          have NB297_306 := n17_
          have NB306_297 := n18_
          clear n0_ n1_ n2_ n3_ n4_ n5_ n6_ n7_ n8_ n9_ n10_ n11_ n12_ n13_ n14_ n15_ n16_ n17_ n18_
          clear hb hbox hg
          refine hK.out _ _ ⟨(bC BK287.out 0).trans rfl, (bC BK287.out 1).trans rfl, (bC BK287.out 2).trans rfl, ((HB.out.cell (World.block_lt_of_cell? w _ hw299_0)).trans hw299_0)⟩ (fun hHeld => ?_)
          clear hK K
          refine norm_ (a' := ?_) ?_ ?_
          rotate_left
          ·show Act.put _ (some 14) _ = _
           simp only [Act.put, sI, sZ, sS, i64_w, i32_w]
           rfl
          exact norm_ (by simp only [putAll, Act.put, sI, sZ, sS]) (hCont (v302, gb306) _ ⟨hHeld, (by apply Kd.N_to; exact Kd.N_mono HO303.out (fun _ hk => ⟨hk.1.1, ⟨hk.1.2.1, ⟨hk.1.2.2.1, ⟨hk.1.2.2.2.1, ⟨hk.1.2.2.2.2.1, ⟨hk.1.2.2.2.2.2, hk.2⟩⟩⟩⟩⟩⟩)), (by apply Kd.N_to; exact Kd.N_mono HO_288001.out (fun _ hk => ⟨hk.1.1.1, ⟨hk.1.2, ⟨hk.1.1.2.1, ⟨hk.1.1.2.2.1, ⟨hk.1.1.2.2.2.1, ⟨hk.1.1.2.2.2.2.1, ⟨hk.1.1.2.2.2.2.2, hk.2⟩⟩⟩⟩⟩⟩⟩)), (by apply Kd.N_to; exact Kd.N_mono HO_298001.out (fun _ hk => ⟨hk.1.1.1, ⟨hk.1.2, ⟨hk.1.1.2.1, ⟨hk.1.1.2.2.1, ⟨hk.1.1.2.2.2.1, ⟨hk.1.1.2.2.2.2.1, ⟨hk.1.1.2.2.2.2.2, hk.2⟩⟩⟩⟩⟩⟩⟩)), (bT BK279.out), (bT BK280.out), (bT BK287.out), (bT BK297.out), (bT BK306.out), GW306.out, GE306.out, NB279_306.out, NB306_279.out, NB280_306.out, NB306_280.out, NB287_306.out, NB306_287.out, NB297_306.out, NB306_297.out, bA⟩)
         ·skip
          refine box_step ?hg (N := 14) ?hd (cs := #[.int .u64 0, .slice none 0 0, .string (⟨#[]⟩ : ByteArray)]) (t := 66) ?hr ?_; (case hd => rfl); (case hg => rfl); (case hr => first | (go_simp; done) | (go_simp; rfl))
          intro gb306 hg w44 hbox hb
          have n0_ := Ax.mk (Kd.N_below (Kd.N_elderB (by exact Kd.N_to HO_288001.out) gb306 (Nat.le_of_eq hg.symm)) hb)
          have n1_ := Ax.mk (Kd.N_below (Kd.N_elderB (by exact Kd.N_to HO_298001.out) gb306 (Nat.le_of_eq hg.symm)) hb)
          have n2_ := Ax.mk (bB (bT BK279.out) hb)
          have n3_ := Ax.mk (bB (bT BK280.out) hb)
          have n4_ := Ax.mk (bB (bT BK287.out) hb)
          have n5_ := Ax.mk (bB (bT BK297.out) hb)
          have n6_ := Ax.mk (bP bA hb)
          have n7_ := Ax.mk (hbox)
          have n8_ := Ax.mk ((ge_new hg : w.heap.size ≤ gb306))
          have n9_ := Ax.mk ((ge_new hg : w.heap.size ≤ gb306))
          have n10_ := Ax.mk ((ne_lt hg BK279.out : gb279 ≠ gb306))
          have n11_ := Ax.mk ((ne_gt hg BK279.out : gb306 ≠ gb279))
          have n12_ := Ax.mk ((ne_lt hg BK280.out : gb280 ≠ gb306))
          have n13_ := Ax.mk ((ne_gt hg BK280.out : gb306 ≠ gb280))
          have n14_ := Ax.mk ((ne_lt hg BK287.out : gb287 ≠ gb306))
          have n15_ := Ax.mk ((ne_gt hg BK287.out : gb306 ≠ gb287))
          have n16_ := Ax.mk ((ne_lt hg BK297.out : gb297 ≠ gb306))
          have n17_ := Ax.mk ((ne_gt hg BK297.out : gb306 ≠ gb297))
          clear HO_288001
          clear HO_298001
          clear BK279
          clear BK280
          clear BK287
          clear BK297
          clear HB
          have HO_288001 := n0_
          have HO_298001 := n1_
          have BK279 := n2_
          have BK280 := n3_
          have BK287 := n4_
          have BK297 := n5_
          have HB := n6_
          have BK306 := n7_
          have GW306 := n8_
          have GE306 := n9_
          have NB279_306 := n10_
          have NB306_279 := n11_
          have NB280_306 := n12_
          have NB306_280 := n13_
          have NB287_306 := n14_
          have NB306_287 := n15_
          have NB297_306 := n16_
          have NB306_297 := n17_
          clear n0_ n1_ n2_ n3_ n4_ n5_ n6_ n7_ n8_ n9_ n10_ n11_ n12_ n13_ n14_ n15_ n16_ n17_
          clear hb hbox hg
          refine hK.out _ _ ⟨(bC BK287.out 0).trans rfl, (bC BK287.out 1).trans rfl, (bC BK287.out 2).trans rfl, ((HB.out.cell (World.block_lt_of_cell? w _ hw299_0)).trans hw299_0)⟩ (fun hHeld => ?_)
          clear hK K
          refine norm_ (a' := ?_) ?_ ?_
          rotate_left
          ·show Act.put _ (some 14) _ = _
           simp only [Act.put, sI, sZ, sS, i64_w, i32_w]
           rfl
          refine one_ (i := 5) (N := some 54) #[true, true, true, true, true, true, false, false, false, true, false, false] rfl rfl (one_of HT_.out (by kernel_rfl)) (by decide) (fun K hK => ?_)
          refine goes_ Tryd.func39 (by kernel_rfl) rfl #[.agg #[.int .u64 x288000_2, .slice Ao42 x288001_2.length co42, .string x288002_2], .slice A299_0 (rd_L4 l2 x13_2).length c299_0] (by rfl) rfl rfl (by (try simp only [List.map_toArray, List.map_cons, List.map_nil]); first | done | rfl | (simp only [List.length_drop, List.length_take]; rfl) | (rw [wrap_sum2 (by assumption)]; rfl)) ?_
          with_reducible refine (journal_Add.calls k2 x288000_2 (fun k_ => (((w.heap.size ≤ k_) ∧ (some k_ ≠ (u298001 : Value).ownBlock ∧ (k_ ≠ gb279 ∧ (k_ ≠ gb280 ∧ (k_ ≠ gb287 ∧ k_ ≠ gb297))))) ∧ k_ ≠ gb306)) _ _ x288001_2 x288002_2 _ _ (rd_L4 l2 x13_2) t300 t301 t304 t305 _ ?side1 ?side2 ?side3 A38.out (HT.below bA)).mono ?_
          (case side1 => exact Kd.N_V (HO_288001.out))
          (case side2 => repeat (first | exact (Kd.C_below HR299_0.out HB.out) | (with_reducible refine Kd.C_alloc ?_ _) | (with_reducible refine Kd.C_drewN ?_ _) | (with_reducible refine Kd.C_drew ?_)))
          (case side3 => exact HC299_0.out)
          rintro e w45 ⟨v302, rfl, ho0, hb⟩
          refine ⟨_, rfl, ?_⟩
          have n0_ := Ax.mk (Kd.N_elder' (by exact Kd.N_to HO_288001.out) (Kd.N_base ho0) hb)
          have n1_ := Ax.mk (Kd.N_elder' (by exact Kd.N_to HO_298001.out) (Kd.N_base ho0) hb)
          have n2_ := Ax.mk (Kd.N_lower (Kd.N_mono (ok' := fun k_ => (w.heap.size ≤ k_) ∧ some k_ ≠ (u298001 : Value).ownBlock ∧ k_ ≠ gb279 ∧ k_ ≠ gb280 ∧ k_ ≠ gb287 ∧ k_ ≠ gb297 ∧ k_ ≠ gb306) ho0 (fun k_ hk_ => ⟨Or.elim hk_ (fun hs_ => hs_.1.1) (fun hn_ => (Nat.le_trans (bS bA) hn_)), Or.elim hk_ (fun hs_ => hs_.1.2.1) (fun hn_ => (Kd.fresh' (Kd.N_lt (by exact Kd.N_to HO_298001.out)) k_ hn_)), Or.elim hk_ (fun hs_ => hs_.1.2.2.1) (fun hn_ => (Kd.freshB (g := gb279) (o := .cells #[.int .u64 x280000_2, .slice none 0 0, .string x280002_2] 66 (0, 0)) (bT BK279.out) k_ hn_)), Or.elim hk_ (fun hs_ => hs_.1.2.2.2.1) (fun hn_ => (Kd.freshB (g := gb280) (o := .cells #[.int .u64 x281000_2, .slice none 0 0, .string x281002_2] 68 (0, 0)) (bT BK280.out) k_ hn_)), Or.elim hk_ (fun hs_ => hs_.1.2.2.2.2.1) (fun hn_ => (Kd.freshB (g := gb287) (o := .cells #[.int .u64 x288000_2, .slice Ao42 x288001_2.length co42, .string x288002_2] 66 (0, 0)) (bT BK287.out) k_ hn_)), Or.elim hk_ (fun hs_ => hs_.1.2.2.2.2.2) (fun hn_ => (Kd.freshB (g := gb297) (o := .cells #[.int .u64 x298000_2, u298001, .string x298002_2] 68 (0, 0)) (bT BK297.out) k_ hn_)), Or.elim hk_ (fun hs_ => hs_.2) (fun hn_ => (Kd.freshB (g := gb306) (o := .cells #[.int .u64 0, .slice none 0 0, .string (⟨#[]⟩ : ByteArray)] 66 (0, 0)) (bT BK306.out) k_ hn_))⟩)) (bS bA))
          have n3_ := Ax.mk (bB (bT BK279.out) hb)
          have n4_ := Ax.mk (bB (bT BK280.out) hb)
          have n5_ := Ax.mk (bB (bT BK287.out) hb)
          have n6_ := Ax.mk (bB (bT BK297.out) hb)
          have n7_ := Ax.mk (bB (bT BK306.out) hb)
          have n8_ := Ax.mk (bP bA hb)
          clear HO_288001
          clear HO_298001
          clear BK279
          clear BK280
          clear BK287
          clear BK297
          clear BK306
          clear HB
          have HO_288001 := n0_
          have HO_298001 := n1_
          have HO303 := n2_
          have BK279 := n3_
          have BK280 := n4_
          have BK287 := n5_
          have BK297 := n6_
          have BK306 := n7_
          have HB := n8_
          clear n0_ n1_ n2_ n3_ n4_ n5_ n6_ n7_ n8_
          (try clear hb)
          (try clear hb2)
          (try clear hk)
          (try clear hi)
          (try clear ho0)
          refine hK.out _ _ ⟨(bC BK287.out 0).trans rfl, (bC BK287.out 1).trans rfl, (bC BK287.out 2).trans rfl, ((HB.out.cell (World.block_lt_of_cell? w _ hw299_0)).trans hw299_0)⟩ (fun hHeld => ?_)
          clear hK K
          refine norm_ (a' := ?_) ?_ ?_
          rotate_left
          ·show Act.put _ (some 54) _ = _
           simp only [Act.put, sI, sZ, sS, i64_w, i32_w]
           rfl
          refine pure_ (i := 6) (N := some 48) (v := ?_) (a' := ?_) #[true, true, true, true, true, true, true, false, false, true, false, false] rfl rfl (any_of HT_.out (by kernel_rfl)) (fun _ _ _ h => h) (Or.inl ⟨by rfl, ?_⟩) ?_ ?_
          rotate_left; · intro w'; go_simp; with_reducible rfl
          rotate_left; · simp only [Act.put, sI, sZ, sS, i64_w, i32_w]; rfl
          refine pure_ (i := 7) (N := some 55) (v := ?_) (a' := ?_) #[true, true, true, true, true, true, true, true, false, true, false, false] rfl rfl (any_of HT_.out (by kernel_rfl)) (fun _ _ _ h => h) (Or.inl ⟨by rfl, ?_⟩) ?_ ?_
          rotate_left; · intro w'; go_simp; with_reducible rfl
          rotate_left; · simp only [Act.put, sI, sZ, sS, i64_w, i32_w]; rfl
          refine pure_ (i := 8) (N := some 56) (v := ?_) (a' := ?_) (TF 10 2) rfl rfl (any_of HT_.out (by kernel_rfl)) (fun _ _ _ h => h) (Or.inl ⟨by rfl, ?_⟩) ?_ ?_
          rotate_left; · intro w'; go_simp; with_reducible rfl
          rotate_left; · simp only [Act.put, sI, sZ, sS, i64_w, i32_w]; rfl
          exact norm_ (by simp only [putAll, Act.put, sI, sZ, sS]) (hCont (v302, gb306) _ ⟨hHeld, (by exact Kd.N_to HO303.out), (by apply Kd.N_to; exact Kd.N_mono HO_288001.out (fun _ hk => ⟨hk.1.1.1, ⟨hk.2, ⟨hk.1.1.2.1, ⟨hk.1.1.2.2.1, ⟨hk.1.1.2.2.2.1, ⟨hk.1.1.2.2.2.2.1, ⟨hk.1.1.2.2.2.2.2, hk.1.2⟩⟩⟩⟩⟩⟩⟩)), (by apply Kd.N_to; exact Kd.N_mono HO_298001.out (fun _ hk => ⟨hk.1.1.1, ⟨hk.2, ⟨hk.1.1.2.1, ⟨hk.1.1.2.2.1, ⟨hk.1.1.2.2.2.1, ⟨hk.1.1.2.2.2.2.1, ⟨hk.1.1.2.2.2.2.2, hk.1.2⟩⟩⟩⟩⟩⟩⟩)), (bT BK279.out), (bT BK280.out), (bT BK287.out), (bT BK297.out), (bT BK306.out), GW306.out, GE306.out, NB279_306.out, NB306_279.out, NB280_306.out, NB306_280.out, NB287_306.out, NB306_287.out, NB297_306.out, NB306_297.out, bA⟩)
        rintro ⟨v302, gb306⟩ w46 ⟨hS_, h0_, h1_, h2_, h3_, h4_, h5_, h6_, h7_, h8_, h9_, h10_, h11_, h12_, h13_, h14_, h15_, h16_, h17_, h18_⟩
        have n0_ : Ax (Kd.N k44 44 w46 w.heap.size (fun k_ => (w.heap.size ≤ k_) ∧ some k_ ≠ (u298001 : Value).ownBlock ∧ k_ ≠ gb279 ∧ k_ ≠ gb280 ∧ k_ ≠ gb287 ∧ k_ ≠ gb297 ∧ k_ ≠ gb306) v302 t301) := ⟨h0_⟩
        have n1_ : Ax (Kd.N k44 44 w46 w.heap.size (fun k_ => (w.heap.size ≤ k_) ∧ some k_ ≠ (v302 : Value).ownBlock ∧ some k_ ≠ (u298001 : Value).ownBlock ∧ k_ ≠ gb279 ∧ k_ ≠ gb280 ∧ k_ ≠ gb287 ∧ k_ ≠ gb297 ∧ k_ ≠ gb306) (.slice Ao42 x288001_2.length co42) x288001_2) := ⟨h1_⟩
        have n2_ : Ax (Kd.N k46 46 w46 w.heap.size (fun k_ => (w.heap.size ≤ k_) ∧ some k_ ≠ (v302 : Value).ownBlock ∧ some k_ ≠ (.slice Ao42 x288001_2.length co42 : Value).ownBlock ∧ k_ ≠ gb279 ∧ k_ ≠ gb280 ∧ k_ ≠ gb287 ∧ k_ ≠ gb297 ∧ k_ ≠ gb306) u298001 x298001_2) := ⟨h2_⟩
        have n3_ : Ax (w46.heap[gb279]? = some (.cells #[.int .u64 x280000_2, .slice none 0 0, .string x280002_2] 66 (0, 0))) := ⟨h3_⟩
        have n4_ : Ax (w46.heap[gb280]? = some (.cells #[.int .u64 x281000_2, .slice none 0 0, .string x281002_2] 68 (0, 0))) := ⟨h4_⟩
        have n5_ : Ax (w46.heap[gb287]? = some (.cells #[.int .u64 x288000_2, .slice Ao42 x288001_2.length co42, .string x288002_2] 66 (0, 0))) := ⟨h5_⟩
        have n6_ : Ax (w46.heap[gb297]? = some (.cells #[.int .u64 x298000_2, u298001, .string x298002_2] 68 (0, 0))) := ⟨h6_⟩
        have n7_ : Ax (w46.heap[gb306]? = some (.cells #[.int .u64 0, .slice none 0 0, .string (⟨#[]⟩ : ByteArray)] 66 (0, 0))) := ⟨h7_⟩
        have n8_ : Ax (w.heap.size ≤ gb306) := ⟨h8_⟩
        have n9_ : Ax (w.heap.size ≤ gb306) := ⟨h9_⟩
        have n10_ : Ax (gb279 ≠ gb306) := ⟨h10_⟩
        have n11_ : Ax (gb306 ≠ gb279) := ⟨h11_⟩
        have n12_ : Ax (gb280 ≠ gb306) := ⟨h12_⟩
        have n13_ : Ax (gb306 ≠ gb280) := ⟨h13_⟩
        have n14_ : Ax (gb287 ≠ gb306) := ⟨h14_⟩
        have n15_ : Ax (gb306 ≠ gb287) := ⟨h15_⟩
        have n16_ : Ax (gb297 ≠ gb306) := ⟨h16_⟩
        have n17_ : Ax (gb306 ≠ gb297) := ⟨h17_⟩
        have n18_ : Ax (Below w.heap.size w w46) := ⟨h18_⟩
        clear HO_288001
        clear HO_298001
        clear BK279
        clear BK280
        clear BK287
        clear BK297
        clear HB
        clear h0_ h1_ h2_ h3_ h4_ h5_ h6_ h7_ h8_ h9_ h10_ h11_ h12_ h13_ h14_ h15_ h16_ h17_ h18_
        have HO303 := n0_
        have HO_288001 := n1_
        have HO_298001 := n2_
        have BK279 := n3_
        have BK280 := n4_
        have BK287 := n5_
        have BK297 := n6_
        have BK306 := n7_
        have GW306 := n8_
        have GE306 := n9_
        have NB279_306 := n10_
        have NB306_279 := n11_
        have NB280_306 := n12_
        have NB306_280 := n13_
        have NB287_306 := n14_
        have NB306_287 := n15_
        have NB297_306 := n16_
        have NB306_297 := n17_
        have HB := n18_
        clear n0_ n1_ n2_ n3_ n4_ n5_ n6_ n7_ n8_ n9_ n10_ n11_ n12_ n13_ n14_ n15_ n16_ n17_ n18_
        have hHeld : w46.cell? ⟨gb287, 0, none⟩ = some (.int .u64 x288000_2) ∧ w46.cell? ⟨gb287, 1, none⟩ = some (.slice Ao42 x288001_2.length co42) ∧ w46.cell? ⟨gb287, 2, none⟩ = some (.string x288002_2) ∧ w46.cell? (ad299.add (x13_2).toNat) = some (.slice A299_0 (rd_L4 l2 x13_2).length c299_0) := hS_
        obtain ⟨Ao48, co48, eo48⟩ := Kd.N_slice HO303.out
        (first | subst eo48 | (injection eo48 with f1_ f2_ f3_; have f4_ := f1_.symm; have f5_ := f3_.symm; clear f1_ f2_ f3_; subst f4_; subst f5_))
        refine norm_ (a' := ?_) ?_ ?_
        rotate_left
        ·simp only [putAll, Act.put, sI, sZ, sS]
         rfl
        refine one_ (i := 10) (N := none) (TF 11 1) rfl rfl (one_of HT_.out (by kernel_rfl)) (by decide) (fun K hK => ?_)
        have hs47 : w46.cell? ⟨gb306, 0, none⟩ = some (.int .u64 0) := (bC BK306.out 0).trans rfl
        have hfs47 := bF BK306.out 0
        have hns47_0 := NB279_306.out
        have hns47_1 := NB280_306.out
        have hns47_2 := NB287_306.out
        have hns47_3 := NB297_306.out
        have hms47_0 := NB306_279.out
        have hms47_1 := NB306_280.out
        have hms47_2 := NB306_287.out
        have hms47_3 := NB306_297.out
        have hs49 : w46.cell? ⟨gb306, 1, none⟩ = some (.slice none 0 0) := (bC BK306.out 1).trans rfl
        have hfs49 := bF BK306.out 1
        have hns49_0 := NB279_306.out
        have hns49_1 := NB280_306.out
        have hns49_2 := NB287_306.out
        have hns49_3 := NB297_306.out
        have hms49_0 := NB306_279.out
        have hms49_1 := NB306_280.out
        have hms49_2 := NB306_287.out
        have hms49_3 := NB306_297.out
        have hs50 : w46.cell? ⟨gb306, 2, none⟩ = some (.string (⟨#[]⟩ : ByteArray)) := (bC BK306.out 2).trans rfl
        have hfs50 := bF BK306.out 2
        have hns50_0 := NB279_306.out
        have hns50_1 := NB280_306.out
        have hns50_2 := NB287_306.out
        have hns50_3 := NB297_306.out
        have hms50_0 := NB306_279.out
        have hms50_1 := NB306_280.out
        have hms50_2 := NB306_287.out
        have hms50_3 := NB306_297.out
        refine skip_ (w1 := ?_) (by rfl) rfl ?_ ?_
        rotate_left
        ·go_simp
         rfl
        refine hK.out _ _ ⟨((cell_far (p := ⟨gb306, _, none⟩) NB287_306.out _).trans (((cell_far (p := ⟨gb306, _, none⟩) NB287_306.out _).trans (((cell_far (p := ⟨gb306, _, none⟩) NB287_306.out _).trans (hHeld.1)))))), ((cell_far (p := ⟨gb306, _, none⟩) NB287_306.out _).trans (((cell_far (p := ⟨gb306, _, none⟩) NB287_306.out _).trans (((cell_far (p := ⟨gb306, _, none⟩) NB287_306.out _).trans (hHeld.2.1)))))), ((cell_far (p := ⟨gb306, _, none⟩) NB287_306.out _).trans (((cell_far (p := ⟨gb306, _, none⟩) NB287_306.out _).trans (((cell_far (p := ⟨gb306, _, none⟩) NB287_306.out _).trans (hHeld.2.2.1)))))), ((cell_far (p := ⟨gb306, _, none⟩) (by first | exact Nat.ne_of_lt (Nat.lt_of_lt_of_le (by have := World.block_lt_of_cell? _ _ hw299_0; first | rwa [add_block] at this | exact this) GW306.out) | (rw [add_block]; exact Nat.ne_of_lt (Nat.lt_of_lt_of_le (by have := World.block_lt_of_cell? _ _ hw299_0; first | rwa [add_block] at this | exact this) GW306.out)) | (show (Addr.add _ _).block ≠ _; rw [add_block]; exact Nat.ne_of_lt (Nat.lt_of_lt_of_le (by have := World.block_lt_of_cell? _ _ hw299_0; first | rwa [add_block] at this | exact this) GW306.out)) | (dsimp only; exact Nat.ne_of_lt (Nat.lt_of_lt_of_le (by have := World.block_lt_of_cell? _ _ hw299_0; first | rwa [add_block] at this | exact this) GW306.out))) _).trans (((cell_far (p := ⟨gb306, _, none⟩) (by first | exact Nat.ne_of_lt (Nat.lt_of_lt_of_le (by have := World.block_lt_of_cell? _ _ hw299_0; first | rwa [add_block] at this | exact this) GW306.out) | (rw [add_block]; exact Nat.ne_of_lt (Nat.lt_of_lt_of_le (by have := World.block_lt_of_cell? _ _ hw299_0; first | rwa [add_block] at this | exact this) GW306.out)) | (show (Addr.add _ _).block ≠ _; rw [add_block]; exact Nat.ne_of_lt (Nat.lt_of_lt_of_le (by have := World.block_lt_of_cell? _ _ hw299_0; first | rwa [add_block] at this | exact this) GW306.out)) | (dsimp only; exact Nat.ne_of_lt (Nat.lt_of_lt_of_le (by have := World.block_lt_of_cell? _ _ hw299_0; first | rwa [add_block] at this | exact this) GW306.out))) _).trans (((cell_far (p := ⟨gb306, _, none⟩) (by first | exact Nat.ne_of_lt (Nat.lt_of_lt_of_le (by have := World.block_lt_of_cell? _ _ hw299_0; first | rwa [add_block] at this | exact this) GW306.out) | (rw [add_block]; exact Nat.ne_of_lt (Nat.lt_of_lt_of_le (by have := World.block_lt_of_cell? _ _ hw299_0; first | rwa [add_block] at this | exact this) GW306.out)) | (show (Addr.add _ _).block ≠ _; rw [add_block]; exact Nat.ne_of_lt (Nat.lt_of_lt_of_le (by have := World.block_lt_of_cell? _ _ hw299_0; first | rwa [add_block] at this | exact this) GW306.out)) | (dsimp only; exact Nat.ne_of_lt (Nat.lt_of_lt_of_le (by have := World.block_lt_of_cell? _ _ hw299_0; first | rwa [add_block] at this | exact this) GW306.out))) _).trans (hHeld.2.2.2))))))⟩ (fun hHeld => ?_)
        clear hK K
        refine pure_ (i := 11) (N := some 15) (v := ?_) (a' := ?_) (TF 12 0) rfl rfl (any_of HT_.out (by kernel_rfl)) (fun _ _ _ h => h) (Or.inl ⟨by rfl, ?_⟩) ?_ ?_
        rotate_left; · intro w'; go_simp; with_reducible rfl
        rotate_left; · simp only [Act.put, sI, sZ, sS, i64_w, i32_w]; rfl
        refine done_ (done_of HT_.out (by kernel_rfl)) ?_
        obtain ⟨Ao51, co51, eo51⟩ := Kd.N_slice HO_298001.out
        subst eo51
        try go_wp2
        have n0_ : Ax (Kd.N k44 44 (((w46.setCell ⟨gb306, 0, none⟩ (.int .u64 t300)).setCell ⟨gb306, 1, none⟩ (.slice Ao48 t301.length co48)).setCell ⟨gb306, 2, none⟩ (.string t304)) w.heap.size (fun k_ => (w.heap.size ≤ k_) ∧ some k_ ≠ (.slice Ao51 x298001_2.length co51 : Value).ownBlock ∧ some k_ ≠ (.slice Ao48 t301.length co48 : Value).ownBlock ∧ k_ ≠ gb279 ∧ k_ ≠ gb280 ∧ k_ ≠ gb287 ∧ k_ ≠ gb297 ∧ k_ ≠ gb306) (.slice Ao42 x288001_2.length co42) x288001_2) := ⟨by apply Kd.N_to; exact Kd.N_mono (Kd.N_far (p := ⟨gb306, 2, none⟩) (Kd.N_far (p := ⟨gb306, 1, none⟩) (Kd.N_far (p := ⟨gb306, 0, none⟩) (Kd.N_mono HO_288001.out (fun k_ hk => (⟨hk, hk.2.2.2.2.2.2.2⟩ : _ ∧ k_ ≠ gb306))) (fun _ hk => hk.2) (.int .u64 t300)) (fun _ hk => hk.2) (.slice Ao48 t301.length co48)) (fun _ hk => hk.2) (.string t304)) (fun _ hk => ⟨hk.1.1, ⟨hk.1.2.2.1, ⟨hk.1.2.1, ⟨hk.1.2.2.2.1, ⟨hk.1.2.2.2.2.1, ⟨hk.1.2.2.2.2.2.1, ⟨hk.1.2.2.2.2.2.2.1, hk.1.2.2.2.2.2.2.2⟩⟩⟩⟩⟩⟩⟩)⟩
        have n1_ : Ax (Kd.N k46 46 (((w46.setCell ⟨gb306, 0, none⟩ (.int .u64 t300)).setCell ⟨gb306, 1, none⟩ (.slice Ao48 t301.length co48)).setCell ⟨gb306, 2, none⟩ (.string t304)) w.heap.size (fun k_ => (w.heap.size ≤ k_) ∧ some k_ ≠ (.slice Ao42 x288001_2.length co42 : Value).ownBlock ∧ some k_ ≠ (.slice Ao48 t301.length co48 : Value).ownBlock ∧ k_ ≠ gb279 ∧ k_ ≠ gb280 ∧ k_ ≠ gb287 ∧ k_ ≠ gb297 ∧ k_ ≠ gb306) (.slice Ao51 x298001_2.length co51) x298001_2) := ⟨by apply Kd.N_to; exact Kd.N_mono (Kd.N_far (p := ⟨gb306, 2, none⟩) (Kd.N_far (p := ⟨gb306, 1, none⟩) (Kd.N_far (p := ⟨gb306, 0, none⟩) (Kd.N_mono HO_298001.out (fun k_ hk => (⟨hk, hk.2.2.2.2.2.2.2⟩ : _ ∧ k_ ≠ gb306))) (fun _ hk => hk.2) (.int .u64 t300)) (fun _ hk => hk.2) (.slice Ao48 t301.length co48)) (fun _ hk => hk.2) (.string t304)) (fun _ hk => ⟨hk.1.1, ⟨hk.1.2.2.1, ⟨hk.1.2.1, ⟨hk.1.2.2.2.1, ⟨hk.1.2.2.2.2.1, ⟨hk.1.2.2.2.2.2.1, ⟨hk.1.2.2.2.2.2.2.1, hk.1.2.2.2.2.2.2.2⟩⟩⟩⟩⟩⟩⟩)⟩
        have n2_ : Ax (Kd.N k44 44 (((w46.setCell ⟨gb306, 0, none⟩ (.int .u64 t300)).setCell ⟨gb306, 1, none⟩ (.slice Ao48 t301.length co48)).setCell ⟨gb306, 2, none⟩ (.string t304)) w.heap.size (fun k_ => (w.heap.size ≤ k_) ∧ some k_ ≠ (.slice Ao51 x298001_2.length co51 : Value).ownBlock ∧ k_ ≠ gb279 ∧ k_ ≠ gb280 ∧ k_ ≠ gb287 ∧ k_ ≠ gb297 ∧ k_ ≠ gb306) (.slice Ao48 t301.length co48) t301) := ⟨by apply Kd.N_to; exact Kd.N_mono (Kd.N_far (p := ⟨gb306, 2, none⟩) (Kd.N_far (p := ⟨gb306, 1, none⟩) (Kd.N_far (p := ⟨gb306, 0, none⟩) (Kd.N_mono HO303.out (fun k_ hk => (⟨hk, hk.2.2.2.2.2.2⟩ : _ ∧ k_ ≠ gb306))) (fun _ hk => hk.2) (.int .u64 t300)) (fun _ hk => hk.2) (.slice Ao48 t301.length co48)) (fun _ hk => hk.2) (.string t304)) (fun _ hk => ⟨hk.1.1, ⟨hk.1.2.1, ⟨hk.1.2.2.1, ⟨hk.1.2.2.2.1, ⟨hk.1.2.2.2.2.1, ⟨hk.1.2.2.2.2.2.1, hk.1.2.2.2.2.2.2⟩⟩⟩⟩⟩⟩)⟩
        have n3_ : Ax ((((w46.setCell ⟨gb306, 0, none⟩ (.int .u64 t300)).setCell ⟨gb306, 1, none⟩ (.slice Ao48 t301.length co48)).setCell ⟨gb306, 2, none⟩ (.string t304)).heap[gb279]? = some (.cells #[.int .u64 x280000_2, .slice none 0 0, .string x280002_2] 66 (0, 0))) := ⟨by refine bT ?_; refine bR ?_ NB279_306.out _; refine bT ?_; refine bR ?_ NB279_306.out _; refine bT ?_; refine bR ?_ NB279_306.out _; refine bT ?_; exact BK279.out⟩
        have n4_ : Ax ((((w46.setCell ⟨gb306, 0, none⟩ (.int .u64 t300)).setCell ⟨gb306, 1, none⟩ (.slice Ao48 t301.length co48)).setCell ⟨gb306, 2, none⟩ (.string t304)).heap[gb280]? = some (.cells #[.int .u64 x281000_2, .slice none 0 0, .string x281002_2] 68 (0, 0))) := ⟨by refine bT ?_; refine bR ?_ NB280_306.out _; refine bT ?_; refine bR ?_ NB280_306.out _; refine bT ?_; refine bR ?_ NB280_306.out _; refine bT ?_; exact BK280.out⟩
        have n5_ : Ax ((((w46.setCell ⟨gb306, 0, none⟩ (.int .u64 t300)).setCell ⟨gb306, 1, none⟩ (.slice Ao48 t301.length co48)).setCell ⟨gb306, 2, none⟩ (.string t304)).heap[gb287]? = some (.cells #[.int .u64 x288000_2, .slice Ao42 x288001_2.length co42, .string x288002_2] 66 (0, 0))) := ⟨by refine bT ?_; refine bR ?_ NB287_306.out _; refine bT ?_; refine bR ?_ NB287_306.out _; refine bT ?_; refine bR ?_ NB287_306.out _; refine bT ?_; exact BK287.out⟩
        have n6_ : Ax ((((w46.setCell ⟨gb306, 0, none⟩ (.int .u64 t300)).setCell ⟨gb306, 1, none⟩ (.slice Ao48 t301.length co48)).setCell ⟨gb306, 2, none⟩ (.string t304)).heap[gb297]? = some (.cells #[.int .u64 x298000_2, .slice Ao51 x298001_2.length co51, .string x298002_2] 68 (0, 0))) := ⟨by refine bT ?_; refine bR ?_ NB297_306.out _; refine bT ?_; refine bR ?_ NB297_306.out _; refine bT ?_; refine bR ?_ NB297_306.out _; refine bT ?_; exact BK297.out⟩
        have n7_ : Ax ((((w46.setCell ⟨gb306, 0, none⟩ (.int .u64 t300)).setCell ⟨gb306, 1, none⟩ (.slice Ao48 t301.length co48)).setCell ⟨gb306, 2, none⟩ (.string t304)).heap[gb306]? = some (.cells #[.int .u64 t300, .slice Ao48 t301.length co48, .string t304] 66 (0, 0))) := ⟨by refine bT ?_; refine bU (cs := #[.int .u64 t300, .slice Ao48 t301.length co48, .string (⟨#[]⟩ : ByteArray)]) ?_ 2 _ rfl; refine bT ?_; refine bU (cs := #[.int .u64 t300, .slice none 0 0, .string (⟨#[]⟩ : ByteArray)]) ?_ 1 _ rfl; refine bT ?_; refine bU (cs := #[.int .u64 0, .slice none 0 0, .string (⟨#[]⟩ : ByteArray)]) ?_ 0 _ rfl; refine bT ?_; exact BK306.out⟩
        have n8_ : Ax (Below w.heap.size w (((w46.setCell ⟨gb306, 0, none⟩ (.int .u64 t300)).setCell ⟨gb306, 1, none⟩ (.slice Ao48 t301.length co48)).setCell ⟨gb306, 2, none⟩ (.string t304))) := ⟨bA⟩
        (try clear HO_288001)
        (try clear HO_298001)
        (try clear HO303)
        (try clear BK279)
        (try clear BK280)
        (try clear BK287)
        (try clear BK297)
        (try clear BK306)
        (try clear HB)
        generalize (((w46.setCell ⟨gb306, 0, none⟩ (.int .u64 t300)).setCell ⟨gb306, 1, none⟩ (.slice Ao48 t301.length co48)).setCell ⟨gb306, 2, none⟩ (.string t304)) = w52 at n0_ n1_ n2_ n3_ n4_ n5_ n6_ n7_ n8_ ⊢
        have HO_288001 := n0_
        have HO_298001 := n1_
        have HO303 := n2_
        have BK279 := n3_
        have BK280 := n4_
        have BK287 := n5_
        have BK297 := n6_
        have BK306 := n7_
        have HB := n8_
        clear n0_ n1_ n2_ n3_ n4_ n5_ n6_ n7_ n8_
        have n0_ := Ax.mk (Kd.N_drew HO_288001.out)
        have n1_ := Ax.mk (Kd.N_drew HO_298001.out)
        have n2_ := Ax.mk (Kd.N_drew HO303.out)
        have n3_ := Ax.mk (blk_drew BK279.out)
        have n4_ := Ax.mk (blk_drew BK280.out)
        have n5_ := Ax.mk (blk_drew BK287.out)
        have n6_ := Ax.mk (blk_drew BK297.out)
        have n7_ := Ax.mk (blk_drew BK306.out)
        have n8_ := Ax.mk (below_drew1 HB.out)
        clear HO_288001
        clear HO_298001
        clear HO303
        clear BK279
        clear BK280
        clear BK287
        clear BK297
        clear BK306
        clear HB
        have HO_288001 := n0_
        have HO_298001 := n1_
        have HO303 := n2_
        have BK279 := n3_
        have BK280 := n4_
        have BK287 := n5_
        have BK297 := n6_
        have BK306 := n7_
        have HB := n8_
        clear n0_ n1_ n2_ n3_ n4_ n5_ n6_ n7_ n8_
        have p307 : 0 ≤ (x13_2 : Int) := of_decide_eq_true (by first | (with_reducible assumption) | assumption)
        have q307 : x13_2 < (l2.length : Int) := of_decide_eq_true (by first | (with_reducible assumption) | assumption)
        obtain ⟨ad307, A307_0, c307_0, e307, hx307_0, hl307_0, hi307_0⟩ := at_L4 HR2.out x13_2 p307 q307
        have hw307_0 := hx307_0
        obtain rfl : ad299 = ad307 := (by injection e307)
        replace hx307_0 := (HB.out.cell (World.block_lt_of_cell? w _ hx307_0)).trans hx307_0
        have HR307_0 := Ax.mk hi307_0
        have HC307_0 := Ax.mk hl307_0
        clear hi307_0 hl307_0
        replace p307 := eq_true p307
        replace q307 := eq_true q307
        refine start_ (n := 13) (S := fun w' => w'.cell? ⟨gb297, 0, none⟩ = some (.int .u64 x298000_2) ∧ w'.cell? ⟨gb297, 1, none⟩ = some (.slice Ao51 x298001_2.length co51) ∧ w'.cell? ⟨gb297, 2, none⟩ = some (.string x298002_2) ∧ w'.cell? (ad299.add (x13_2).toNat) = some (.slice A307_0 (rd_L4 l2 x13_2).length c307_0)) (ds := []) (TF 0 13) (by kernel_rfl) rfl rfl ⟨(bC BK297.out 0).trans rfl, (bC BK297.out 1).trans rfl, (bC BK297.out 2).trans rfl, ((HB.out.cell (World.block_lt_of_cell? w _ hw307_0)).trans hw307_0)⟩ (fun hHeld => ?_); refine with_tabW l13_built.tab9 l13_built.bits9 (fun HT_ HW_ => ?_)
        generalize w52.drew = w53 at HO_288001 HO_298001 HO303 BK279 BK280 BK287 BK297 BK306 HB HR307_0 hx307_0 hHeld ⊢
        refine pure_ (i := 1) (N := some 59) (v := ?_) (a' := ?_) #[false, true, false, false, false, false, false, false, false, false, false, false, false] rfl rfl (any_of HT_.out (by kernel_rfl)) (fun _ _ _ h => h) (Or.inl ⟨by rfl, ?_⟩) ?_ ?_
        rotate_left; · intro w'; go_simp; with_reducible rfl
        rotate_left; · simp only [Act.put, sI, sZ, sS, i64_w, i32_w]; rfl
        refine pure_ (i := 2) (N := some 60) (v := ?_) (a' := ?_) #[false, true, true, false, false, false, false, false, false, false, false, false, false] rfl rfl (any_of HT_.out (by kernel_rfl)) (fun _ _ _ h => h) (Or.inl ⟨by rfl, ?_⟩) ?_ ?_
        rotate_left; · intro w'; go_simp; with_reducible rfl
        rotate_left; · simp only [Act.put, sI, sZ, sS, i64_w, i32_w]; rfl
        refine pure_ (i := 3) (N := some 61) (v := ?_) (a' := ?_) #[false, true, true, true, false, false, false, false, false, false, false, false, false] rfl rfl (any_of HT_.out (by kernel_rfl)) (fun _ _ _ h => h) (Or.inl ⟨by rfl, ?_⟩) ?_ ?_
        rotate_left; · intro w'; go_simp; with_reducible rfl
        rotate_left; · simp only [Act.put, sI, sZ, sS, i64_w, i32_w]; rfl
        refine take_ (i := 0) (N := some 58) (v := ?_) (a' := ?_) (TF 4 9) rfl rfl (take_ofW HT_.out HW_.out (by kernel_rfl)) (fun _ _ _ h => h) (Or.inl ⟨by rfl, ?_⟩) hHeld ?_ ?_
        rotate_left
        ·rintro w' ⟨s0, s1, s2, s3⟩
         go_simp
         with_reducible rfl
        rotate_left
        ·simp only [Act.put, sI, sZ, sS, i64_w, i32_w]
         rfl
        refine take_ (i := 4) (N := some 62) (v := ?_) (a' := ?_) (TF 5 8) rfl rfl (take_ofW HT_.out HW_.out (by kernel_rfl)) (fun _ _ _ h => h) (Or.inl ⟨by rfl, ?_⟩) hHeld ?_ ?_
        rotate_left
        ·rintro w' ⟨s0, s1, s2, s3⟩
         go_simp
         with_reducible rfl
        rotate_left
        ·simp only [Act.put, sI, sZ, sS, i64_w, i32_w]
         rfl
        refine join_ (σ := Value × Value × Nat) 2 (TF 11 2) (fun s_ => [(63, s_.1), (64, .tuple #[.agg #[.int .u64 t311, s_.2.1, .string t315], .int .i64 t316]), (16, .pointer (some ⟨s_.2.2, 0, none⟩)), (57, .tuple #[.agg #[.int .u64 t311, s_.2.1, .string t315], .int .i64 t316]), (65, .agg #[.int .u64 t311, s_.2.1, .string t315]), (66, .int .i64 t316)]) (fun s_ w' => (w'.cell? ⟨gb297, 0, none⟩ = some (.int .u64 x298000_2) ∧ w'.cell? ⟨gb297, 1, none⟩ = some (.slice Ao51 x298001_2.length co51) ∧ w'.cell? ⟨gb297, 2, none⟩ = some (.string x298002_2) ∧ w'.cell? (ad299.add (x13_2).toNat) = some (.slice A307_0 (rd_L4 l2 x13_2).length c307_0)) ∧ (Kd.N k44 44 w' w.heap.size (fun k_ => (w.heap.size ≤ k_) ∧ some k_ ≠ (s_.1 : Value).ownBlock ∧ some k_ ≠ (s_.2.1 : Value).ownBlock ∧ some k_ ≠ (.slice Ao51 x298001_2.length co51 : Value).ownBlock ∧ k_ ≠ gb279 ∧ k_ ≠ gb280 ∧ k_ ≠ gb287 ∧ k_ ≠ gb297 ∧ k_ ≠ gb306 ∧ k_ ≠ s_.2.2) (.slice Ao48 t301.length co48) t301) ∧ (Kd.R k26 26 w' w.heap.size (fun k_ => (w.heap.size ≤ k_)) s_.1 t308) ∧ (Kd.N k46 46 w' w.heap.size (fun k_ => (w.heap.size ≤ k_) ∧ some k_ ≠ (.slice Ao48 t301.length co48 : Value).ownBlock ∧ some k_ ≠ (.slice Ao42 x288001_2.length co42 : Value).ownBlock ∧ k_ ≠ gb279 ∧ k_ ≠ gb280 ∧ k_ ≠ gb287 ∧ k_ ≠ gb297 ∧ k_ ≠ gb306 ∧ k_ ≠ s_.2.2) s_.2.1 t312) ∧ (Kd.N k44 44 w' w.heap.size (fun k_ => (w.heap.size ≤ k_) ∧ some k_ ≠ (.slice Ao48 t301.length co48 : Value).ownBlock ∧ some k_ ≠ (s_.1 : Value).ownBlock ∧ some k_ ≠ (s_.2.1 : Value).ownBlock ∧ some k_ ≠ (.slice Ao51 x298001_2.length co51 : Value).ownBlock ∧ k_ ≠ gb279 ∧ k_ ≠ gb280 ∧ k_ ≠ gb287 ∧ k_ ≠ gb297 ∧ k_ ≠ gb306 ∧ k_ ≠ s_.2.2) (.slice Ao42 x288001_2.length co42) x288001_2) ∧ (Kd.N k46 46 w' w.heap.size (fun k_ => (w.heap.size ≤ k_) ∧ some k_ ≠ (.slice Ao48 t301.length co48 : Value).ownBlock ∧ some k_ ≠ (s_.1 : Value).ownBlock ∧ some k_ ≠ (s_.2.1 : Value).ownBlock ∧ some k_ ≠ (.slice Ao42 x288001_2.length co42 : Value).ownBlock ∧ k_ ≠ gb279 ∧ k_ ≠ gb280 ∧ k_ ≠ gb287 ∧ k_ ≠ gb297 ∧ k_ ≠ gb306 ∧ k_ ≠ s_.2.2) (.slice Ao51 x298001_2.length co51) x298001_2) ∧ (w'.heap[gb279]? = some (.cells #[.int .u64 x280000_2, .slice none 0 0, .string x280002_2] 66 (0, 0))) ∧ (w'.heap[gb280]? = some (.cells #[.int .u64 x281000_2, .slice none 0 0, .string x281002_2] 68 (0, 0))) ∧ (w'.heap[gb287]? = some (.cells #[.int .u64 x288000_2, .slice Ao42 x288001_2.length co42, .string x288002_2] 66 (0, 0))) ∧ (w'.heap[gb297]? = some (.cells #[.int .u64 x298000_2, .slice Ao51 x298001_2.length co51, .string x298002_2] 68 (0, 0))) ∧ (w'.heap[gb306]? = some (.cells #[.int .u64 t300, .slice Ao48 t301.length co48, .string t304] 66 (0, 0))) ∧ (w'.heap[s_.2.2]? = some (.cells #[.int .u64 0, .slice none 0 0, .string (⟨#[]⟩ : ByteArray)] 68 (0, 0))) ∧ (w.heap.size ≤ s_.2.2) ∧ (w.heap.size ≤ s_.2.2) ∧ (gb279 ≠ s_.2.2) ∧ (s_.2.2 ≠ gb279) ∧ (gb280 ≠ s_.2.2) ∧ (s_.2.2 ≠ gb280) ∧ (gb287 ≠ s_.2.2) ∧ (s_.2.2 ≠ gb287) ∧ (gb297 ≠ s_.2.2) ∧ (s_.2.2 ≠ gb297) ∧ (gb306 ≠ s_.2.2) ∧ (s_.2.2 ≠ gb306) ∧ (Below w.heap.size w w')) ?_ ?_
        rotate_left
        ·intro hCont
         refine two_ (i := 5) (j := 10) (Ni := some 63) (Nj := some 16) (TF 6 7) #[true, true, true, true, true, false, false, false, false, false, true, false, false] rfl rfl rfl rfl (two_of HT_.out (by kernel_rfl)) (by decide) (by decide) (fun K hK => ?_) (fun K hK => ?_)
         ·skip
          refine goes_ Tryd.func40 (by kernel_rfl) rfl #[.slice A307_0 (rd_L4 l2 x13_2).length c307_0] (by rfl) rfl rfl (by (try simp only [List.map_toArray, List.map_cons, List.map_nil]); first | done | rfl | (simp only [List.length_drop, List.length_take]; rfl) | (rw [wrap_sum2 (by assumption)]; rfl)) ?_
          with_reducible refine (l13_steps.calls k2 _ _ (rd_L4 l2 x13_2) t308 _ ?side1 ?side2 A39.out).mono ?_
          (case side1 => repeat (first | exact (Kd.C_below HR307_0.out HB.out) | (with_reducible refine Kd.C_alloc ?_ _) | (with_reducible refine Kd.C_drewN ?_ _) | (with_reducible refine Kd.C_drew ?_)))
          (case side2 => exact HC307_0.out)
          rintro e w54 ⟨v309, rfl, ho0, hb⟩
          refine ⟨_, rfl, ?_⟩
          have n0_ := Ax.mk (Kd.N_elder' (by exact Kd.N_to HO_288001.out) (Kd.R_base ho0) hb)
          have n1_ := Ax.mk (Kd.N_elder' (by exact Kd.N_to HO_298001.out) (Kd.R_base ho0) hb)
          have n2_ := Ax.mk (Kd.N_elder' (by exact Kd.N_to HO303.out) (Kd.R_base ho0) hb)
          have n3_ := Ax.mk (Kd.R_lower (Kd.R_newM (M := fun k_ => (w.heap.size ≤ k_)) ho0 (bS bA) (fun k_ h_ => h_)) (bS bA))
          have n4_ := Ax.mk (bB (bT BK279.out) hb)
          have n5_ := Ax.mk (bB (bT BK280.out) hb)
          have n6_ := Ax.mk (bB (bT BK287.out) hb)
          have n7_ := Ax.mk (bB (bT BK297.out) hb)
          have n8_ := Ax.mk (bB (bT BK306.out) hb)
          have n9_ := Ax.mk (bP bA hb)
          clear HO_288001
          clear HO_298001
          clear HO303
          clear BK279
          clear BK280
          clear BK287
          clear BK297
          clear BK306
          clear HB
          have HO_288001 := n0_
          have HO_298001 := n1_
          have HO303 := n2_
          have HO310 := n3_
          have BK279 := n4_
          have BK280 := n5_
          have BK287 := n6_
          have BK297 := n7_
          have BK306 := n8_
          have HB := n9_
          clear n0_ n1_ n2_ n3_ n4_ n5_ n6_ n7_ n8_ n9_
          (try clear hb)
          (try clear hb2)
          (try clear hk)
          (try clear hi)
          (try clear ho0)
          obtain ⟨Ao55, co55, eo55⟩ := Kd.R_slice HO310.out
          (first | subst eo55 | (injection eo55 with f1_ f2_ f3_; have f4_ := f1_.symm; have f5_ := f3_.symm; clear f1_ f2_ f3_; subst f4_; subst f5_))
          refine hK.out _ _ ⟨(bC BK297.out 0).trans rfl, (bC BK297.out 1).trans rfl, (bC BK297.out 2).trans rfl, ((HB.out.cell (World.block_lt_of_cell? w _ hw307_0)).trans hw307_0)⟩ (fun hHeld => ?_)
          clear hK K
          refine norm_ (a' := ?_) ?_ ?_
          rotate_left
          ·show Act.put _ (some 63) _ = _
           simp only [Act.put, sI, sZ, sS, i64_w, i32_w]
           rfl
          refine two_ (i := 6) (j := 10) (Ni := some 64) (Nj := some 16) (TF 7 6) #[true, true, true, true, true, true, false, false, false, false, true, false, false] rfl rfl rfl rfl (two_of HT_.out (by kernel_rfl)) (by decide) (by decide) (fun K hK => ?_) (fun K hK => ?_)
          ·skip
           refine goes_ Tryd.func61 (by kernel_rfl) rfl #[.agg #[.int .u64 x298000_2, .slice Ao51 x298001_2.length co51, .string x298002_2], .slice Ao55 t308.length co55] (by rfl) rfl rfl (by (try simp only [List.map_toArray, List.map_cons, List.map_nil]); first | done | rfl | (simp only [List.length_drop, List.length_take]; rfl) | (rw [wrap_sum2 (by assumption)]; rfl)) ?_
           with_reducible refine (r13_Add.calls k2 x298000_2 (fun k_ => (((w.heap.size ≤ k_) ∧ (some k_ ≠ (.slice Ao42 x288001_2.length co42 : Value).ownBlock ∧ (some k_ ≠ (.slice Ao48 t301.length co48 : Value).ownBlock ∧ (k_ ≠ gb279 ∧ (k_ ≠ gb280 ∧ (k_ ≠ gb287 ∧ (k_ ≠ gb297 ∧ k_ ≠ gb306))))))) ∧ some k_ ≠ (.slice Ao55 t308.length co55 : Value).ownBlock)) _ _ x298001_2 x298002_2 (fun k_ => some k_ = (.slice Ao55 t308.length co55 : Value).ownBlock) _ _ t308 t311 t312 t315 t316 _ ?side1 ?side2 A40.out).mono ?_
           (case side1 => exact Kd.N_V (HO_298001.out))
           (case side2 => exact Kd.R_V (Kd.R_tight rfl (Kd.R_types (Kd.R_types (Kd.R_types (Kd.R_types (Kd.R_types (Kd.R_apart' (Kd.R_apart' (Kd.R_apart' (HO310.out) (Kd.N_typed HO_288001.out) (by decide)) (Kd.N_typed HO_298001.out) (by decide)) (Kd.N_typed HO303.out) (by decide)) BK279.out (by decide)) BK280.out (by decide)) BK287.out (by decide)) BK297.out (by decide)) BK306.out (by decide))))
           rintro e w56 ⟨v313, rfl, ho0, hb⟩
           refine ⟨_, rfl, ?_⟩
           have n0_ := Ax.mk (Kd.N_elder' (by exact Kd.N_to HO_288001.out) (Kd.N_base ho0) hb)
           have n1_ := Ax.mk (Kd.N_elder' (by exact Kd.N_to HO_298001.out) (Kd.N_base ho0) hb)
           have n2_ := Ax.mk (Kd.N_elder' (by exact Kd.N_to HO303.out) (Kd.N_base ho0) hb)
           have n3_ := Ax.mk (Kd.R_below (by exact Kd.R_to HO310.out) hb)
           have n4_ := Ax.mk (Kd.N_lower (Kd.N_mono (ok' := fun k_ => (w.heap.size ≤ k_) ∧ some k_ ≠ (.slice Ao42 x288001_2.length co42 : Value).ownBlock ∧ some k_ ≠ (.slice Ao48 t301.length co48 : Value).ownBlock ∧ k_ ≠ gb279 ∧ k_ ≠ gb280 ∧ k_ ≠ gb287 ∧ k_ ≠ gb297 ∧ k_ ≠ gb306) ho0 (fun k_ hk_ => ⟨Or.elim hk_ (fun hs_ => Or.elim hs_ (fun hs_ => hs_.1.1) (fun hs_ => ((Kd.R_types (Kd.R_types (Kd.R_types (Kd.R_types (Kd.R_types (Kd.R_apart' (Kd.R_apart' (Kd.R_apart' (HO310.out) (Kd.N_typed HO_288001.out) (by decide)) (Kd.N_typed HO_298001.out) (by decide)) (Kd.N_typed HO303.out) (by decide)) BK279.out (by decide)) BK280.out (by decide)) BK287.out (by decide)) BK297.out (by decide)) BK306.out (by decide)).1 k_ hs_.symm).1.1.1.1.1.1.1.1.1)) (fun hn_ => (Nat.le_trans (bS bA) hn_)), Or.elim hk_ (fun hs_ => Or.elim hs_ (fun hs_ => hs_.1.2.1) (fun hs_ => ((Kd.R_types (Kd.R_types (Kd.R_types (Kd.R_types (Kd.R_types (Kd.R_apart' (Kd.R_apart' (Kd.R_apart' (HO310.out) (Kd.N_typed HO_288001.out) (by decide)) (Kd.N_typed HO_298001.out) (by decide)) (Kd.N_typed HO303.out) (by decide)) BK279.out (by decide)) BK280.out (by decide)) BK287.out (by decide)) BK297.out (by decide)) BK306.out (by decide)).1 k_ hs_.symm).1.1.1.1.1.1.1.2)) (fun hn_ => (Kd.fresh' (Kd.N_lt (by exact Kd.N_to HO_288001.out)) k_ hn_)), Or.elim hk_ (fun hs_ => Or.elim hs_ (fun hs_ => hs_.1.2.2.1) (fun hs_ => ((Kd.R_types (Kd.R_types (Kd.R_types (Kd.R_types (Kd.R_types (Kd.R_apart' (Kd.R_apart' (Kd.R_apart' (HO310.out) (Kd.N_typed HO_288001.out) (by decide)) (Kd.N_typed HO_298001.out) (by decide)) (Kd.N_typed HO303.out) (by decide)) BK279.out (by decide)) BK280.out (by decide)) BK287.out (by decide)) BK297.out (by decide)) BK306.out (by decide)).1 k_ hs_.symm).1.1.1.1.1.2)) (fun hn_ => (Kd.fresh' (Kd.N_lt (by exact Kd.N_to HO303.out)) k_ hn_)), Or.elim hk_ (fun hs_ => Or.elim hs_ (fun hs_ => hs_.1.2.2.2.1) (fun hs_ => ((Kd.R_types (Kd.R_types (Kd.R_types (Kd.R_types (Kd.R_types (Kd.R_apart' (Kd.R_apart' (Kd.R_apart' (HO310.out) (Kd.N_typed HO_288001.out) (by decide)) (Kd.N_typed HO_298001.out) (by decide)) (Kd.N_typed HO303.out) (by decide)) BK279.out (by decide)) BK280.out (by decide)) BK287.out (by decide)) BK297.out (by decide)) BK306.out (by decide)).1 k_ hs_.symm).1.1.1.1.2)) (fun hn_ => (Kd.freshB (g := gb279) (o := .cells #[.int .u64 x280000_2, .slice none 0 0, .string x280002_2] 66 (0, 0)) (bT BK279.out) k_ hn_)), Or.elim hk_ (fun hs_ => Or.elim hs_ (fun hs_ => hs_.1.2.2.2.2.1) (fun hs_ => ((Kd.R_types (Kd.R_types (Kd.R_types (Kd.R_types (Kd.R_types (Kd.R_apart' (Kd.R_apart' (Kd.R_apart' (HO310.out) (Kd.N_typed HO_288001.out) (by decide)) (Kd.N_typed HO_298001.out) (by decide)) (Kd.N_typed HO303.out) (by decide)) BK279.out (by decide)) BK280.out (by decide)) BK287.out (by decide)) BK297.out (by decide)) BK306.out (by decide)).1 k_ hs_.symm).1.1.1.2)) (fun hn_ => (Kd.freshB (g := gb280) (o := .cells #[.int .u64 x281000_2, .slice none 0 0, .string x281002_2] 68 (0, 0)) (bT BK280.out) k_ hn_)), Or.elim hk_ (fun hs_ => Or.elim hs_ (fun hs_ => hs_.1.2.2.2.2.2.1) (fun hs_ => ((Kd.R_types (Kd.R_types (Kd.R_types (Kd.R_types (Kd.R_types (Kd.R_apart' (Kd.R_apart' (Kd.R_apart' (HO310.out) (Kd.N_typed HO_288001.out) (by decide)) (Kd.N_typed HO_298001.out) (by decide)) (Kd.N_typed HO303.out) (by decide)) BK279.out (by decide)) BK280.out (by decide)) BK287.out (by decide)) BK297.out (by decide)) BK306.out (by decide)).1 k_ hs_.symm).1.1.2)) (fun hn_ => (Kd.freshB (g := gb287) (o := .cells #[.int .u64 x288000_2, .slice Ao42 x288001_2.length co42, .string x288002_2] 66 (0, 0)) (bT BK287.out) k_ hn_)), Or.elim hk_ (fun hs_ => Or.elim hs_ (fun hs_ => hs_.1.2.2.2.2.2.2.1) (fun hs_ => ((Kd.R_types (Kd.R_types (Kd.R_types (Kd.R_types (Kd.R_types (Kd.R_apart' (Kd.R_apart' (Kd.R_apart' (HO310.out) (Kd.N_typed HO_288001.out) (by decide)) (Kd.N_typed HO_298001.out) (by decide)) (Kd.N_typed HO303.out) (by decide)) BK279.out (by decide)) BK280.out (by decide)) BK287.out (by decide)) BK297.out (by decide)) BK306.out (by decide)).1 k_ hs_.symm).1.2)) (fun hn_ => (Kd.freshB (g := gb297) (o := .cells #[.int .u64 x298000_2, .slice Ao51 x298001_2.length co51, .string x298002_2] 68 (0, 0)) (bT BK297.out) k_ hn_)), Or.elim hk_ (fun hs_ => Or.elim hs_ (fun hs_ => hs_.1.2.2.2.2.2.2.2) (fun hs_ => ((Kd.R_types (Kd.R_types (Kd.R_types (Kd.R_types (Kd.R_types (Kd.R_apart' (Kd.R_apart' (Kd.R_apart' (HO310.out) (Kd.N_typed HO_288001.out) (by decide)) (Kd.N_typed HO_298001.out) (by decide)) (Kd.N_typed HO303.out) (by decide)) BK279.out (by decide)) BK280.out (by decide)) BK287.out (by decide)) BK297.out (by decide)) BK306.out (by decide)).1 k_ hs_.symm).2)) (fun hn_ => (Kd.freshB (g := gb306) (o := .cells #[.int .u64 t300, .slice Ao48 t301.length co48, .string t304] 66 (0, 0)) (bT BK306.out) k_ hn_))⟩)) (bS bA))
           have n5_ := Ax.mk (bB (bT BK279.out) hb)
           have n6_ := Ax.mk (bB (bT BK280.out) hb)
           have n7_ := Ax.mk (bB (bT BK287.out) hb)
           have n8_ := Ax.mk (bB (bT BK297.out) hb)
           have n9_ := Ax.mk (bB (bT BK306.out) hb)
           have n10_ := Ax.mk (bP bA hb)
           clear HO_288001
           clear HO_298001
           clear HO303
           clear HO310
           clear BK279
           clear BK280
           clear BK287
           clear BK297
           clear BK306
           clear HB
           have HO_288001 := n0_
           have HO_298001 := n1_
           have HO303 := n2_
           have HO310 := n3_
           have HO314 := n4_
           have BK279 := n5_
           have BK280 := n6_
           have BK287 := n7_
           have BK297 := n8_
           have BK306 := n9_
           have HB := n10_
           clear n0_ n1_ n2_ n3_ n4_ n5_ n6_ n7_ n8_ n9_ n10_
           (try clear hb)
           (try clear hb2)
           (try clear hk)
           (try clear hi)
           (try clear ho0)
           refine hK.out _ _ ⟨(bC BK297.out 0).trans rfl, (bC BK297.out 1).trans rfl, (bC BK297.out 2).trans rfl, ((HB.out.cell (World.block_lt_of_cell? w _ hw307_0)).trans hw307_0)⟩ (fun hHeld => ?_)
           clear hK K
           refine norm_ (a' := ?_) ?_ ?_
           rotate_left
           ·show Act.put _ (some 64) _ = _
            simp only [Act.put, sI, sZ, sS, i64_w, i32_w]
            rfl
           refine pure_ (i := 7) (N := some 57) (v := ?_) (a' := ?_) (TF 8 5) rfl rfl (any_of HT_.out (by kernel_rfl)) (fun _ _ _ h => h) (Or.inl ⟨by rfl, ?_⟩) ?_ ?_
           rotate_left; · intro w'; go_simp; with_reducible rfl
           rotate_left; · simp only [Act.put, sI, sZ, sS, i64_w, i32_w]; rfl
           refine pure_ (i := 8) (N := some 65) (v := ?_) (a' := ?_) (TF 9 4) rfl rfl (any_of HT_.out (by kernel_rfl)) (fun _ _ _ h => h) (Or.inl ⟨by rfl, ?_⟩) ?_ ?_
           rotate_left; · intro w'; go_simp; with_reducible rfl
           rotate_left; · simp only [Act.put, sI, sZ, sS, i64_w, i32_w]; rfl
           refine pure_ (i := 9) (N := some 66) (v := ?_) (a' := ?_) (TF 10 3) rfl rfl (any_of HT_.out (by kernel_rfl)) (fun _ _ _ h => h) (Or.inl ⟨by rfl, ?_⟩) ?_ ?_
           rotate_left; · intro w'; go_simp; with_reducible rfl
           rotate_left; · simp only [Act.put, sI, sZ, sS, i64_w, i32_w]; rfl
           refine one_ (i := 10) (N := some 16) (TF 11 2) rfl rfl (one_of HT_.out (by kernel_rfl)) (by decide) (fun K hK => ?_)
           refine box_step ?hg (N := 16) ?hd (cs := #[.int .u64 0, .slice none 0 0, .string (⟨#[]⟩ : ByteArray)]) (t := 68) ?hr ?_; (case hd => rfl); (case hg => rfl); (case hr => first | (go_simp; done) | (go_simp; rfl))
           intro gb317 hg w57 hbox hb
           have n0_ := Ax.mk (Kd.N_below (Kd.N_elderB (by exact Kd.N_to HO_288001.out) gb317 (Nat.le_of_eq hg.symm)) hb)
           have n1_ := Ax.mk (Kd.N_below (Kd.N_elderB (by exact Kd.N_to HO_298001.out) gb317 (Nat.le_of_eq hg.symm)) hb)
           have n2_ := Ax.mk (Kd.N_below (Kd.N_elderB (by exact Kd.N_to HO303.out) gb317 (Nat.le_of_eq hg.symm)) hb)
           have n3_ := Ax.mk (Kd.R_below (by exact Kd.R_to HO310.out) hb)
           have n4_ := Ax.mk (Kd.N_below (Kd.N_elderB (by exact Kd.N_to HO314.out) gb317 (Nat.le_of_eq hg.symm)) hb)
           have n5_ := Ax.mk (bB (bT BK279.out) hb)
           have n6_ := Ax.mk (bB (bT BK280.out) hb)
           have n7_ := Ax.mk (bB (bT BK287.out) hb)
           have n8_ := Ax.mk (bB (bT BK297.out) hb)
           have n9_ := Ax.mk (bB (bT BK306.out) hb)
           have n10_ := Ax.mk (bP bA hb)
           have n11_ := Ax.mk (hbox)
           have n12_ := Ax.mk ((ge_new hg : w.heap.size ≤ gb317))
           have n13_ := Ax.mk ((ge_new hg : w.heap.size ≤ gb317))
           have n14_ := Ax.mk ((ne_lt hg BK279.out : gb279 ≠ gb317))
           have n15_ := Ax.mk ((ne_gt hg BK279.out : gb317 ≠ gb279))
           have n16_ := Ax.mk ((ne_lt hg BK280.out : gb280 ≠ gb317))
           have n17_ := Ax.mk ((ne_gt hg BK280.out : gb317 ≠ gb280))
           have n18_ := Ax.mk ((ne_lt hg BK287.out : gb287 ≠ gb317))
           have n19_ := Ax.mk ((ne_gt hg BK287.out : gb317 ≠ gb287))
           have n20_ := Ax.mk ((ne_lt hg BK297.out : gb297 ≠ gb317))
           have n21_ := Ax.mk ((ne_gt hg BK297.out : gb317 ≠ gb297))
           have n22_ := Ax.mk ((ne_lt hg BK306.out : gb306 ≠ gb317))
           have n23_ := Ax.mk ((ne_gt hg BK306.out : gb317 ≠ gb306))
           clear HO_288001
           clear HO_298001
           clear HO303
           clear HO310
           clear HO314
           clear BK279
           clear BK280
           clear BK287
           clear BK297
           clear BK306
           clear HB
           have HO_288001 := n0_
           have HO_298001 := n1_
           have HO303 := n2_
           have HO310 := n3_
           have HO314 := n4_
           have BK279 := n5_
           have BK280 := n6_
           have BK287 := n7_
           have BK297 := n8_
           have BK306 := n9_
           have HB := n10_
           have BK317 := n11_
           have GW317 := n12_
           have GE317 := n13_
           have NB279_317 := n14_
           have NB317_279 := n15_
           have NB280_317 := n16_
           have NB317_280 := n17_
           have NB287_317 := n18_
           have NB317_287 := n19_
           have NB297_317 := n20_
           have NB317_297 := n21_
           have NB306_317 := n22_
           have NB317_306 := n23_
           clear n0_ n1_ n2_ n3_ n4_ n5_ n6_ n7_ n8_ n9_ n10_ n11_ n12_ n13_ n14_ n15_ n16_ n17_ n18_ n19_ n20_ n21_ n22_ n23_
           clear hb hbox hg
           refine hK.out _ _ ⟨(bC BK297.out 0).trans rfl, (bC BK297.out 1).trans rfl, (bC BK297.out 2).trans rfl, ((HB.out.cell (World.block_lt_of_cell? w _ hw307_0)).trans hw307_0)⟩ (fun hHeld => ?_)
           clear hK K
           refine norm_ (a' := ?_) ?_ ?_
           rotate_left
           ·show Act.put _ (some 16) _ = _
            simp only [Act.put, sI, sZ, sS, i64_w, i32_w]
            rfl
           exact norm_ (by simp only [putAll, Act.put, sI, sZ, sS]) (hCont (.slice Ao55 t308.length co55, v313, gb317) _ ⟨hHeld, (by apply Kd.N_to; exact Kd.N_mono HO303.out (fun _ hk => ⟨hk.1.1.1.1, ⟨hk.1.1.2, ⟨hk.1.2, ⟨hk.1.1.1.2.1, ⟨hk.1.1.1.2.2.1, ⟨hk.1.1.1.2.2.2.1, ⟨hk.1.1.1.2.2.2.2.1, ⟨hk.1.1.1.2.2.2.2.2.1, ⟨hk.1.1.1.2.2.2.2.2.2, hk.2⟩⟩⟩⟩⟩⟩⟩⟩⟩)), (by apply Kd.R_to; exact Kd.R_mono HO310.out (fun _ hk => hk.1)), (by apply Kd.N_to; exact Kd.N_mono HO314.out (fun _ hk => ⟨hk.1.1, ⟨hk.1.2.2.1, ⟨hk.1.2.1, ⟨hk.1.2.2.2.1, ⟨hk.1.2.2.2.2.1, ⟨hk.1.2.2.2.2.2.1, ⟨hk.1.2.2.2.2.2.2.1, ⟨hk.1.2.2.2.2.2.2.2, hk.2⟩⟩⟩⟩⟩⟩⟩⟩)), (by apply Kd.N_to; exact Kd.N_mono HO_288001.out (fun _ hk => ⟨hk.1.1.1.1, ⟨hk.1.1.1.2.2.1, ⟨hk.1.1.2, ⟨hk.1.2, ⟨hk.1.1.1.2.1, ⟨hk.1.1.1.2.2.2.1, ⟨hk.1.1.1.2.2.2.2.1, ⟨hk.1.1.1.2.2.2.2.2.1, ⟨hk.1.1.1.2.2.2.2.2.2.1, ⟨hk.1.1.1.2.2.2.2.2.2.2, hk.2⟩⟩⟩⟩⟩⟩⟩⟩⟩⟩)), (by apply Kd.N_to; exact Kd.N_mono HO_298001.out (fun _ hk => ⟨hk.1.1.1.1, ⟨hk.1.1.1.2.2.1, ⟨hk.1.1.2, ⟨hk.1.2, ⟨hk.1.1.1.2.1, ⟨hk.1.1.1.2.2.2.1, ⟨hk.1.1.1.2.2.2.2.1, ⟨hk.1.1.1.2.2.2.2.2.1, ⟨hk.1.1.1.2.2.2.2.2.2.1, ⟨hk.1.1.1.2.2.2.2.2.2.2, hk.2⟩⟩⟩⟩⟩⟩⟩⟩⟩⟩)), (bT BK279.out), (bT BK280.out), (bT BK287.out), (bT BK297.out), (bT BK306.out), (bT BK317.out), GW317.out, GE317.out, NB279_317.out, NB317_279.out, NB280_317.out, NB317_280.out, NB287_317.out, NB317_287.out, NB297_317.out, NB317_297.out, NB306_317.out, NB317_306.out, bA⟩)
          ·skip
           refine box_step ?hg (N := 16) ?hd (cs := #[.int .u64 0, .slice none 0 0, .string (⟨#[]⟩ : ByteArray)]) (t := 68) ?hr ?_; (case hd => rfl); (case hg => rfl); (case hr => first | (go_simp; done) | (go_simp; rfl))
           intro gb317 hg w55 hbox hb
           have n0_ := Ax.mk (Kd.N_below (Kd.N_elderB (by exact Kd.N_to HO_288001.out) gb317 (Nat.le_of_eq hg.symm)) hb)
           have n1_ := Ax.mk (Kd.N_below (Kd.N_elderB (by exact Kd.N_to HO_298001.out) gb317 (Nat.le_of_eq hg.symm)) hb)
           have n2_ := Ax.mk (Kd.N_below (Kd.N_elderB (by exact Kd.N_to HO303.out) gb317 (Nat.le_of_eq hg.symm)) hb)
           have n3_ := Ax.mk (Kd.R_below (by exact Kd.R_to HO310.out) hb)
           have n4_ := Ax.mk (bB (bT BK279.out) hb)
           have n5_ := Ax.mk (bB (bT BK280.out) hb)
           have n6_ := Ax.mk (bB (bT BK287.out) hb)
           have n7_ := Ax.mk (bB (bT BK297.out) hb)
           have n8_ := Ax.mk (bB (bT BK306.out) hb)
           have n9_ := Ax.mk (bP bA hb)
           have n10_ := Ax.mk (hbox)
           have n11_ := Ax.mk ((ge_new hg : w.heap.size ≤ gb317))
           have n12_ := Ax.mk ((ge_new hg : w.heap.size ≤ gb317))
           have n13_ := Ax.mk ((ne_lt hg BK279.out : gb279 ≠ gb317))
           have n14_ := Ax.mk ((ne_gt hg BK279.out : gb317 ≠ gb279))
           have n15_ := Ax.mk ((ne_lt hg BK280.out : gb280 ≠ gb317))
           have n16_ := Ax.mk ((ne_gt hg BK280.out : gb317 ≠ gb280))
           have n17_ := Ax.mk ((ne_lt hg BK287.out : gb287 ≠ gb317))
           have n18_ := Ax.mk ((ne_gt hg BK287.out : gb317 ≠ gb287))
           have n19_ := Ax.mk ((ne_lt hg BK297.out : gb297 ≠ gb317))
           have n20_ := Ax.mk ((ne_gt hg BK297.out : gb317 ≠ gb297))
           have n21_ := Ax.mk ((ne_lt hg BK306.out : gb306 ≠ gb317))
           have n22_ := Ax.mk ((ne_gt hg BK306.out : gb317 ≠ gb306))
           clear HO_288001
           clear HO_298001
           clear HO303
           clear HO310
           clear BK279
           clear BK280
           clear BK287
           clear BK297
           clear BK306
           clear HB
           have HO_288001 := n0_
           have HO_298001 := n1_
           have HO303 := n2_
           have HO310 := n3_
           have BK279 := n4_
           have BK280 := n5_
           have BK287 := n6_
           have BK297 := n7_
           have BK306 := n8_
           have HB := n9_
           have BK317 := n10_
           have GW317 := n11_
           have GE317 := n12_
           have NB279_317 := n13_
           have NB317_279 := n14_
           have NB280_317 := n15_
           have NB317_280 := n16_
           have NB287_317 := n17_
           have NB317_287 := n18_
           have NB297_317 := n19_
           have NB317_297 := n20_
           have NB306_317 := n21_
           have NB317_306 := n22_
           clear n0_ n1_ n2_ n3_ n4_ n5_ n6_ n7_ n8_ n9_ n10_ n11_ n12_ n13_ n14_ n15_ n16_ n17_ n18_ n19_ n20_ n21_ n22_
           clear hb hbox hg
           obtain ⟨Ao56, co56, eo56⟩ := Kd.R_slice HO310.out
           (first | subst eo56 | (injection eo56 with f1_ f2_ f3_; have f4_ := f1_.symm; have f5_ := f3_.symm; clear f1_ f2_ f3_; subst f4_; subst f5_))
           refine hK.out _ _ ⟨(bC BK297.out 0).trans rfl, (bC BK297.out 1).trans rfl, (bC BK297.out 2).trans rfl, ((HB.out.cell (World.block_lt_of_cell? w _ hw307_0)).trans hw307_0)⟩ (fun hHeld => ?_)
           clear hK K
           refine norm_ (a' := ?_) ?_ ?_
           rotate_left
           ·show Act.put _ (some 16) _ = _
            simp only [Act.put, sI, sZ, sS, i64_w, i32_w]
            rfl
           refine one_ (i := 6) (N := some 64) #[true, true, true, true, true, true, true, false, false, false, true, false, false] rfl rfl (one_of HT_.out (by kernel_rfl)) (by decide) (fun K hK => ?_)
           refine goes_ Tryd.func61 (by kernel_rfl) rfl #[.agg #[.int .u64 x298000_2, .slice Ao51 x298001_2.length co51, .string x298002_2], .slice Ao56 t308.length co56] (by rfl) rfl rfl (by (try simp only [List.map_toArray, List.map_cons, List.map_nil]); first | done | rfl | (simp only [List.length_drop, List.length_take]; rfl) | (rw [wrap_sum2 (by assumption)]; rfl)) ?_
           with_reducible refine (r13_Add.calls k2 x298000_2 (fun k_ => ((((w.heap.size ≤ k_) ∧ (some k_ ≠ (.slice Ao42 x288001_2.length co42 : Value).ownBlock ∧ (some k_ ≠ (.slice Ao48 t301.length co48 : Value).ownBlock ∧ (k_ ≠ gb279 ∧ (k_ ≠ gb280 ∧ (k_ ≠ gb287 ∧ (k_ ≠ gb297 ∧ k_ ≠ gb306))))))) ∧ some k_ ≠ (.slice Ao56 t308.length co56 : Value).ownBlock) ∧ k_ ≠ gb317)) _ _ x298001_2 x298002_2 (fun k_ => some k_ = (.slice Ao56 t308.length co56 : Value).ownBlock) _ _ t308 t311 t312 t315 t316 _ ?side1 ?side2 A40.out).mono ?_
           (case side1 => exact Kd.N_V (HO_298001.out))
           (case side2 => exact Kd.R_V (Kd.R_tight rfl (Kd.R_types (Kd.R_types (Kd.R_types (Kd.R_types (Kd.R_types (Kd.R_types (Kd.R_apart' (Kd.R_apart' (Kd.R_apart' (HO310.out) (Kd.N_typed HO_288001.out) (by decide)) (Kd.N_typed HO_298001.out) (by decide)) (Kd.N_typed HO303.out) (by decide)) BK279.out (by decide)) BK280.out (by decide)) BK287.out (by decide)) BK297.out (by decide)) BK306.out (by decide)) BK317.out (by decide))))
           rintro e w57 ⟨v313, rfl, ho0, hb⟩
           refine ⟨_, rfl, ?_⟩
           have n0_ := Ax.mk (Kd.N_elder' (by exact Kd.N_to HO_288001.out) (Kd.N_base ho0) hb)
           have n1_ := Ax.mk (Kd.N_elder' (by exact Kd.N_to HO_298001.out) (Kd.N_base ho0) hb)
           have n2_ := Ax.mk (Kd.N_elder' (by exact Kd.N_to HO303.out) (Kd.N_base ho0) hb)
           have n3_ := Ax.mk (Kd.R_below (by exact Kd.R_to HO310.out) hb)
           have n4_ := Ax.mk (Kd.N_lower (Kd.N_mono (ok' := fun k_ => (w.heap.size ≤ k_) ∧ some k_ ≠ (.slice Ao42 x288001_2.length co42 : Value).ownBlock ∧ some k_ ≠ (.slice Ao48 t301.length co48 : Value).ownBlock ∧ k_ ≠ gb279 ∧ k_ ≠ gb280 ∧ k_ ≠ gb287 ∧ k_ ≠ gb297 ∧ k_ ≠ gb306 ∧ k_ ≠ gb317) ho0 (fun k_ hk_ => ⟨Or.elim hk_ (fun hs_ => Or.elim hs_ (fun hs_ => hs_.1.1.1) (fun hs_ => ((Kd.R_types (Kd.R_types (Kd.R_types (Kd.R_types (Kd.R_types (Kd.R_types (Kd.R_apart' (Kd.R_apart' (Kd.R_apart' (HO310.out) (Kd.N_typed HO_288001.out) (by decide)) (Kd.N_typed HO_298001.out) (by decide)) (Kd.N_typed HO303.out) (by decide)) BK279.out (by decide)) BK280.out (by decide)) BK287.out (by decide)) BK297.out (by decide)) BK306.out (by decide)) BK317.out (by decide)).1 k_ hs_.symm).1.1.1.1.1.1.1.1.1.1)) (fun hn_ => (Nat.le_trans (bS bA) hn_)), Or.elim hk_ (fun hs_ => Or.elim hs_ (fun hs_ => hs_.1.1.2.1) (fun hs_ => ((Kd.R_types (Kd.R_types (Kd.R_types (Kd.R_types (Kd.R_types (Kd.R_types (Kd.R_apart' (Kd.R_apart' (Kd.R_apart' (HO310.out) (Kd.N_typed HO_288001.out) (by decide)) (Kd.N_typed HO_298001.out) (by decide)) (Kd.N_typed HO303.out) (by decide)) BK279.out (by decide)) BK280.out (by decide)) BK287.out (by decide)) BK297.out (by decide)) BK306.out (by decide)) BK317.out (by decide)).1 k_ hs_.symm).1.1.1.1.1.1.1.1.2)) (fun hn_ => (Kd.fresh' (Kd.N_lt (by exact Kd.N_to HO_288001.out)) k_ hn_)), Or.elim hk_ (fun hs_ => Or.elim hs_ (fun hs_ => hs_.1.1.2.2.1) (fun hs_ => ((Kd.R_types (Kd.R_types (Kd.R_types (Kd.R_types (Kd.R_types (Kd.R_types (Kd.R_apart' (Kd.R_apart' (Kd.R_apart' (HO310.out) (Kd.N_typed HO_288001.out) (by decide)) (Kd.N_typed HO_298001.out) (by decide)) (Kd.N_typed HO303.out) (by decide)) BK279.out (by decide)) BK280.out (by decide)) BK287.out (by decide)) BK297.out (by decide)) BK306.out (by decide)) BK317.out (by decide)).1 k_ hs_.symm).1.1.1.1.1.1.2)) (fun hn_ => (Kd.fresh' (Kd.N_lt (by exact Kd.N_to HO303.out)) k_ hn_)), Or.elim hk_ (fun hs_ => Or.elim hs_ (fun hs_ => hs_.1.1.2.2.2.1) (fun hs_ => ((Kd.R_types (Kd.R_types (Kd.R_types (Kd.R_types (Kd.R_types (Kd.R_types (Kd.R_apart' (Kd.R_apart' (Kd.R_apart' (HO310.out) (Kd.N_typed HO_288001.out) (by decide)) (Kd.N_typed HO_298001.out) (by decide)) (Kd.N_typed HO303.out) (by decide)) BK279.out (by decide)) BK280.out (by decide)) BK287.out (by decide)) BK297.out (by decide)) BK306.out (by decide)) BK317.out (by decide)).1 k_ hs_.symm).1.1.1.1.1.2)) (fun hn_ => (Kd.freshB (g := gb279) (o := .cells #[.int .u64 x280000_2, .slice none 0 0, .string x280002_2] 66 (0, 0)) (bT BK279.out) k_ hn_)), Or.elim hk_ (fun hs_ => Or.elim hs_ (fun hs_ => hs_.1.1.2.2.2.2.1) (fun hs_ => ((Kd.R_types (Kd.R_types (Kd.R_types (Kd.R_types (Kd.R_types (Kd.R_types (Kd.R_apart' (Kd.R_apart' (Kd.R_apart' (HO310.out) (Kd.N_typed HO_288001.out) (by decide)) (Kd.N_typed HO_298001.out) (by decide)) (Kd.N_typed HO303.out) (by decide)) BK279.out (by decide)) BK280.out (by decide)) BK287.out (by decide)) BK297.out (by decide)) BK306.out (by decide)) BK317.out (by decide)).1 k_ hs_.symm).1.1.1.1.2)) (fun hn_ => (Kd.freshB (g := gb280) (o := .cells #[.int .u64 x281000_2, .slice none 0 0, .string x281002_2] 68 (0, 0)) (bT BK280.out) k_ hn_)), Or.elim hk_ (fun hs_ => Or.elim hs_ (fun hs_ => hs_.1.1.2.2.2.2.2.1) (fun hs_ => ((Kd.R_types (Kd.R_types (Kd.R_types (Kd.R_types (Kd.R_types (Kd.R_types (Kd.R_apart' (Kd.R_apart' (Kd.R_apart' (HO310.out) (Kd.N_typed HO_288001.out) (by decide)) (Kd.N_typed HO_298001.out) (by decide)) (Kd.N_typed HO303.out) (by decide)) BK279.out (by decide)) BK280.out (by decide)) BK287.out (by decide)) BK297.out (by decide)) BK306.out (by decide)) BK317.out (by decide)).1 k_ hs_.symm).1.1.1.2)) (fun hn_ => (Kd.freshB (g := gb287) (o := .cells #[.int .u64 x288000_2, .slice Ao42 x288001_2.length co42, .string x288002_2] 66 (0, 0)) (bT BK287.out) k_ hn_)), Or.elim hk_ (fun hs_ => Or.elim hs_ (fun hs_ => hs_.1.1.2.2.2.2.2.2.1) (fun hs_ => ((Kd.R_types (Kd.R_types (Kd.R_types (Kd.R_types (Kd.R_types (Kd.R_types (Kd.R_apart' (Kd.R_apart' (Kd.R_apart' (HO310.out) (Kd.N_typed HO_288001.out) (by decide)) (Kd.N_typed HO_298001.out) (by decide)) (Kd.N_typed HO303.out) (by decide)) BK279.out (by decide)) BK280.out (by decide)) BK287.out (by decide)) BK297.out (by decide)) BK306.out (by decide)) BK317.out (by decide)).1 k_ hs_.symm).1.1.2)) (fun hn_ => (Kd.freshB (g := gb297) (o := .cells #[.int .u64 x298000_2, .slice Ao51 x298001_2.length co51, .string x298002_2] 68 (0, 0)) (bT BK297.out) k_ hn_)), Or.elim hk_ (fun hs_ => Or.elim hs_ (fun hs_ => hs_.1.1.2.2.2.2.2.2.2) (fun hs_ => ((Kd.R_types (Kd.R_types (Kd.R_types (Kd.R_types (Kd.R_types (Kd.R_types (Kd.R_apart' (Kd.R_apart' (Kd.R_apart' (HO310.out) (Kd.N_typed HO_288001.out) (by decide)) (Kd.N_typed HO_298001.out) (by decide)) (Kd.N_typed HO303.out) (by decide)) BK279.out (by decide)) BK280.out (by decide)) BK287.out (by decide)) BK297.out (by decide)) BK306.out (by decide)) BK317.out (by decide)).1 k_ hs_.symm).1.2)) (fun hn_ => (Kd.freshB (g := gb306) (o := .cells #[.int .u64 t300, .slice Ao48 t301.length co48, .string t304] 66 (0, 0)) (bT BK306.out) k_ hn_)), Or.elim hk_ (fun hs_ => Or.elim hs_ (fun hs_ => hs_.2) (fun hs_ => ((Kd.R_types (Kd.R_types (Kd.R_types (Kd.R_types (Kd.R_types (Kd.R_types (Kd.R_apart' (Kd.R_apart' (Kd.R_apart' (HO310.out) (Kd.N_typed HO_288001.out) (by decide)) (Kd.N_typed HO_298001.out) (by decide)) (Kd.N_typed HO303.out) (by decide)) BK279.out (by decide)) BK280.out (by decide)) BK287.out (by decide)) BK297.out (by decide)) BK306.out (by decide)) BK317.out (by decide)).1 k_ hs_.symm).2)) (fun hn_ => (Kd.freshB (g := gb317) (o := .cells #[.int .u64 0, .slice none 0 0, .string (⟨#[]⟩ : ByteArray)] 68 (0, 0)) (bT BK317.out) k_ hn_))⟩)) (bS bA))
           have n5_ := Ax.mk (bB (bT BK279.out) hb)
           have n6_ := Ax.mk (bB (bT BK280.out) hb)
           have n7_ := Ax.mk (bB (bT BK287.out) hb)
           have n8_ := Ax.mk (bB (bT BK297.out) hb)
           have n9_ := Ax.mk (bB (bT BK306.out) hb)
           have n10_ := Ax.mk (bB (bT BK317.out) hb)
           have n11_ := Ax.mk (bP bA hb)
           clear HO_288001
           clear HO_298001
           clear HO303
           clear HO310
           clear BK279
           clear BK280
           clear BK287
           clear BK297
           clear BK306
           clear BK317
           clear HB
           have HO_288001 := n0_
           have HO_298001 := n1_
           have HO303 := n2_
           have HO310 := n3_
           have HO314 := n4_
           have BK279 := n5_
           have BK280 := n6_
           have BK287 := n7_
           have BK297 := n8_
           have BK306 := n9_
           have BK317 := n10_
           have HB := n11_
           clear n0_ n1_ n2_ n3_ n4_ n5_ n6_ n7_ n8_ n9_ n10_ n11_
           (try clear hb)
           (try clear hb2)
           (try clear hk)
           (try clear hi)
           (try clear ho0)
           refine hK.out _ _ ⟨(bC BK297.out 0).trans rfl, (bC BK297.out 1).trans rfl, (bC BK297.out 2).trans rfl, ((HB.out.cell (World.block_lt_of_cell? w _ hw307_0)).trans hw307_0)⟩ (fun hHeld => ?_)
           clear hK K
           refine norm_ (a' := ?_) ?_ ?_
           rotate_left
           ·show Act.put _ (some 64) _ = _
            simp only [Act.put, sI, sZ, sS, i64_w, i32_w]
            rfl
           refine pure_ (i := 7) (N := some 57) (v := ?_) (a' := ?_) #[true, true, true, true, true, true, true, true, false, false, true, false, false] rfl rfl (any_of HT_.out (by kernel_rfl)) (fun _ _ _ h => h) (Or.inl ⟨by rfl, ?_⟩) ?_ ?_
           rotate_left; · intro w'; go_simp; with_reducible rfl
           rotate_left; · simp only [Act.put, sI, sZ, sS, i64_w, i32_w]; rfl
           refine pure_ (i := 8) (N := some 65) (v := ?_) (a' := ?_) #[true, true, true, true, true, true, true, true, true, false, true, false, false] rfl rfl (any_of HT_.out (by kernel_rfl)) (fun _ _ _ h => h) (Or.inl ⟨by rfl, ?_⟩) ?_ ?_
           rotate_left; · intro w'; go_simp; with_reducible rfl
           rotate_left; · simp only [Act.put, sI, sZ, sS, i64_w, i32_w]; rfl
           refine pure_ (i := 9) (N := some 66) (v := ?_) (a' := ?_) (TF 11 2) rfl rfl (any_of HT_.out (by kernel_rfl)) (fun _ _ _ h => h) (Or.inl ⟨by rfl, ?_⟩) ?_ ?_
           rotate_left; · intro w'; go_simp; with_reducible rfl
           rotate_left; · simp only [Act.put, sI, sZ, sS, i64_w, i32_w]; rfl
           exact norm_ (by simp only [putAll, Act.put, sI, sZ, sS]) (hCont (.slice Ao56 t308.length co56, v313, gb317) _ ⟨hHeld, (by apply Kd.N_to; exact Kd.N_mono HO303.out (fun _ hk => ⟨hk.1.1.1.1, ⟨hk.1.1.2, ⟨hk.2, ⟨hk.1.1.1.2.1, ⟨hk.1.1.1.2.2.1, ⟨hk.1.1.1.2.2.2.1, ⟨hk.1.1.1.2.2.2.2.1, ⟨hk.1.1.1.2.2.2.2.2.1, ⟨hk.1.1.1.2.2.2.2.2.2, hk.1.2⟩⟩⟩⟩⟩⟩⟩⟩⟩)), (by apply Kd.R_to; exact Kd.R_mono HO310.out (fun _ hk => hk.1)), (by apply Kd.N_to; exact Kd.N_mono HO314.out (fun _ hk => ⟨hk.1, ⟨hk.2.2.1, ⟨hk.2.1, ⟨hk.2.2.2.1, ⟨hk.2.2.2.2.1, ⟨hk.2.2.2.2.2.1, ⟨hk.2.2.2.2.2.2.1, ⟨hk.2.2.2.2.2.2.2.1, hk.2.2.2.2.2.2.2.2⟩⟩⟩⟩⟩⟩⟩⟩)), (by apply Kd.N_to; exact Kd.N_mono HO_288001.out (fun _ hk => ⟨hk.1.1.1.1, ⟨hk.1.1.1.2.2.1, ⟨hk.1.1.2, ⟨hk.2, ⟨hk.1.1.1.2.1, ⟨hk.1.1.1.2.2.2.1, ⟨hk.1.1.1.2.2.2.2.1, ⟨hk.1.1.1.2.2.2.2.2.1, ⟨hk.1.1.1.2.2.2.2.2.2.1, ⟨hk.1.1.1.2.2.2.2.2.2.2, hk.1.2⟩⟩⟩⟩⟩⟩⟩⟩⟩⟩)), (by apply Kd.N_to; exact Kd.N_mono HO_298001.out (fun _ hk => ⟨hk.1.1.1.1, ⟨hk.1.1.1.2.2.1, ⟨hk.1.1.2, ⟨hk.2, ⟨hk.1.1.1.2.1, ⟨hk.1.1.1.2.2.2.1, ⟨hk.1.1.1.2.2.2.2.1, ⟨hk.1.1.1.2.2.2.2.2.1, ⟨hk.1.1.1.2.2.2.2.2.2.1, ⟨hk.1.1.1.2.2.2.2.2.2.2, hk.1.2⟩⟩⟩⟩⟩⟩⟩⟩⟩⟩)), (bT BK279.out), (bT BK280.out), (bT BK287.out), (bT BK297.out), (bT BK306.out), (bT BK317.out), GW317.out, GE317.out, NB279_317.out, NB317_279.out, NB280_317.out, NB317_280.out, NB287_317.out, NB317_287.out, NB297_317.out, NB317_297.out, NB306_317.out, NB317_306.out, bA⟩)
         ·skip
          refine box_step ?hg (N := 16) ?hd (cs := #[.int .u64 0, .slice none 0 0, .string (⟨#[]⟩ : ByteArray)]) (t := 68) ?hr ?_; (case hd => rfl); (case hg => rfl); (case hr => first | (go_simp; done) | (go_simp; rfl))
          intro gb317 hg w54 hbox hb
          have n0_ := Ax.mk (Kd.N_below (Kd.N_elderB (by exact Kd.N_to HO_288001.out) gb317 (Nat.le_of_eq hg.symm)) hb)
          have n1_ := Ax.mk (Kd.N_below (Kd.N_elderB (by exact Kd.N_to HO_298001.out) gb317 (Nat.le_of_eq hg.symm)) hb)
          have n2_ := Ax.mk (Kd.N_below (Kd.N_elderB (by exact Kd.N_to HO303.out) gb317 (Nat.le_of_eq hg.symm)) hb)
          have n3_ := Ax.mk (bB (bT BK279.out) hb)
          have n4_ := Ax.mk (bB (bT BK280.out) hb)
          have n5_ := Ax.mk (bB (bT BK287.out) hb)
          have n6_ := Ax.mk (bB (bT BK297.out) hb)
          have n7_ := Ax.mk (bB (bT BK306.out) hb)
          have n8_ := Ax.mk (bP bA hb)
          have n9_ := Ax.mk (hbox)
          have n10_ := Ax.mk ((ge_new hg : w.heap.size ≤ gb317))
          have n11_ := Ax.mk ((ge_new hg : w.heap.size ≤ gb317))
          have n12_ := Ax.mk ((ne_lt hg BK279.out : gb279 ≠ gb317))
          have n13_ := Ax.mk ((ne_gt hg BK279.out : gb317 ≠ gb279))
          have n14_ := Ax.mk ((ne_lt hg BK280.out : gb280 ≠ gb317))
          have n15_ := Ax.mk ((ne_gt hg BK280.out : gb317 ≠ gb280))
          have n16_ := Ax.mk ((ne_lt hg BK287.out : gb287 ≠ gb317))
          have n17_ := Ax.mk ((ne_gt hg BK287.out : gb317 ≠ gb287))
          have n18_ := Ax.mk ((ne_lt hg BK297.out : gb297 ≠ gb317))
          have n19_ := Ax.mk ((ne_gt hg BK297.out : gb317 ≠ gb297))
          have n20_ := Ax.mk ((ne_lt hg BK306.out : gb306 ≠ gb317))
          have n21_ := Ax.mk ((ne_gt hg BK306.out : gb317 ≠ gb306))
          clear HO_288001
          clear HO_298001
          clear HO303
          clear BK279
          clear BK280
          clear BK287
          clear BK297
          clear BK306
          clear HB
          have HO_288001 := n0_
          have HO_298001 := n1_
          have HO303 := n2_
          have BK279 := n3_
          have BK280 := n4_
          have BK287 := n5_
          have BK297 := n6_
          have BK306 := n7_
          have HB := n8_
          have BK317 := n9_
          have GW317 := n10_
          have GE317 := n11_
          have NB279_317 := n12_
          have NB317_279 := n13_
          have NB280_317 := n14_
          have NB317_280 := n15_
          have NB287_317 := n16_
          have NB317_287 := n17_
          have NB297_317 := n18_
          have NB317_297 := n19_
          have NB306_317 := n20_
          have NB317_306 := n21_
          clear n0_ n1_ n2_ n3_ n4_ n5_ n6_ n7_ n8_ n9_ n10_ n11_ n12_ n13_ n14_ n15_ n16_ n17_ n18_ n19_ n20_ n21_
          clear hb hbox hg
          refine hK.out _ _ ⟨(bC BK297.out 0).trans rfl, (bC BK297.out 1).trans rfl, (bC BK297.out 2).trans rfl, ((HB.out.cell (World.block_lt_of_cell? w _ hw307_0)).trans hw307_0)⟩ (fun hHeld => ?_)
          clear hK K
          refine norm_ (a' := ?_) ?_ ?_
          rotate_left
          ·show Act.put _ (some 16) _ = _
           simp only [Act.put, sI, sZ, sS, i64_w, i32_w]
           rfl
          refine one_ (i := 5) (N := some 63) #[true, true, true, true, true, true, false, false, false, false, true, false, false] rfl rfl (one_of HT_.out (by kernel_rfl)) (by decide) (fun K hK => ?_)
          refine goes_ Tryd.func40 (by kernel_rfl) rfl #[.slice A307_0 (rd_L4 l2 x13_2).length c307_0] (by rfl) rfl rfl (by (try simp only [List.map_toArray, List.map_cons, List.map_nil]); first | done | rfl | (simp only [List.length_drop, List.length_take]; rfl) | (rw [wrap_sum2 (by assumption)]; rfl)) ?_
          with_reducible refine (l13_steps.calls k2 _ _ (rd_L4 l2 x13_2) t308 _ ?side1 ?side2 A39.out).mono ?_
          (case side1 => repeat (first | exact (Kd.C_below HR307_0.out HB.out) | (with_reducible refine Kd.C_alloc ?_ _) | (with_reducible refine Kd.C_drewN ?_ _) | (with_reducible refine Kd.C_drew ?_)))
          (case side2 => exact HC307_0.out)
          rintro e w55 ⟨v309, rfl, ho0, hb⟩
          refine ⟨_, rfl, ?_⟩
          have n0_ := Ax.mk (Kd.N_elder' (by exact Kd.N_to HO_288001.out) (Kd.R_base ho0) hb)
          have n1_ := Ax.mk (Kd.N_elder' (by exact Kd.N_to HO_298001.out) (Kd.R_base ho0) hb)
          have n2_ := Ax.mk (Kd.N_elder' (by exact Kd.N_to HO303.out) (Kd.R_base ho0) hb)
          have n3_ := Ax.mk (Kd.R_lower (Kd.R_newM (M := fun k_ => (w.heap.size ≤ k_)) ho0 (bS bA) (fun k_ h_ => h_)) (bS bA))
          have n4_ := Ax.mk (bB (bT BK279.out) hb)
          have n5_ := Ax.mk (bB (bT BK280.out) hb)
          have n6_ := Ax.mk (bB (bT BK287.out) hb)
          have n7_ := Ax.mk (bB (bT BK297.out) hb)
          have n8_ := Ax.mk (bB (bT BK306.out) hb)
          have n9_ := Ax.mk (bB (bT BK317.out) hb)
          have n10_ := Ax.mk (bP bA hb)
          clear HO_288001
          clear HO_298001
          clear HO303
          clear BK279
          clear BK280
          clear BK287
          clear BK297
          clear BK306
          clear BK317
          clear HB
          have HO_288001 := n0_
          have HO_298001 := n1_
          have HO303 := n2_
          have HO310 := n3_
          have BK279 := n4_
          have BK280 := n5_
          have BK287 := n6_
          have BK297 := n7_
          have BK306 := n8_
          have BK317 := n9_
          have HB := n10_
          clear n0_ n1_ n2_ n3_ n4_ n5_ n6_ n7_ n8_ n9_ n10_
          (try clear hb)
          (try clear hb2)
          (try clear hk)
          (try clear hi)
          (try clear ho0)
          obtain ⟨Ao56, co56, eo56⟩ := Kd.R_slice HO310.out
          (first | subst eo56 | (injection eo56 with f1_ f2_ f3_; have f4_ := f1_.symm; have f5_ := f3_.symm; clear f1_ f2_ f3_; subst f4_; subst f5_))
          refine hK.out _ _ ⟨(bC BK297.out 0).trans rfl, (bC BK297.out 1).trans rfl, (bC BK297.out 2).trans rfl, ((HB.out.cell (World.block_lt_of_cell? w _ hw307_0)).trans hw307_0)⟩ (fun hHeld => ?_)
          clear hK K
          refine norm_ (a' := ?_) ?_ ?_
          rotate_left
          ·show Act.put _ (some 63) _ = _
           simp only [Act.put, sI, sZ, sS, i64_w, i32_w]
           rfl
          refine one_ (i := 6) (N := some 64) #[true, true, true, true, true, true, true, false, false, false, true, false, false] rfl rfl (one_of HT_.out (by kernel_rfl)) (by decide) (fun K hK => ?_)
          refine goes_ Tryd.func61 (by kernel_rfl) rfl #[.agg #[.int .u64 x298000_2, .slice Ao51 x298001_2.length co51, .string x298002_2], .slice Ao56 t308.length co56] (by rfl) rfl rfl (by (try simp only [List.map_toArray, List.map_cons, List.map_nil]); first | done | rfl | (simp only [List.length_drop, List.length_take]; rfl) | (rw [wrap_sum2 (by assumption)]; rfl)) ?_
          with_reducible refine (r13_Add.calls k2 x298000_2 (fun k_ => ((((w.heap.size ≤ k_) ∧ (some k_ ≠ (.slice Ao42 x288001_2.length co42 : Value).ownBlock ∧ (some k_ ≠ (.slice Ao48 t301.length co48 : Value).ownBlock ∧ (k_ ≠ gb279 ∧ (k_ ≠ gb280 ∧ (k_ ≠ gb287 ∧ (k_ ≠ gb297 ∧ k_ ≠ gb306))))))) ∧ k_ ≠ gb317) ∧ some k_ ≠ (.slice Ao56 t308.length co56 : Value).ownBlock)) _ _ x298001_2 x298002_2 (fun k_ => some k_ = (.slice Ao56 t308.length co56 : Value).ownBlock) _ _ t308 t311 t312 t315 t316 _ ?side1 ?side2 A40.out).mono ?_
          (case side1 => exact Kd.N_V (HO_298001.out))
          (case side2 => exact Kd.R_V (Kd.R_tight rfl (Kd.R_types (Kd.R_types (Kd.R_types (Kd.R_types (Kd.R_types (Kd.R_types (Kd.R_apart' (Kd.R_apart' (Kd.R_apart' (HO310.out) (Kd.N_typed HO_288001.out) (by decide)) (Kd.N_typed HO_298001.out) (by decide)) (Kd.N_typed HO303.out) (by decide)) BK279.out (by decide)) BK280.out (by decide)) BK287.out (by decide)) BK297.out (by decide)) BK306.out (by decide)) BK317.out (by decide))))
          rintro e w57 ⟨v313, rfl, ho0, hb⟩
          refine ⟨_, rfl, ?_⟩
          have n0_ := Ax.mk (Kd.N_elder' (by exact Kd.N_to HO_288001.out) (Kd.N_base ho0) hb)
          have n1_ := Ax.mk (Kd.N_elder' (by exact Kd.N_to HO_298001.out) (Kd.N_base ho0) hb)
          have n2_ := Ax.mk (Kd.N_elder' (by exact Kd.N_to HO303.out) (Kd.N_base ho0) hb)
          have n3_ := Ax.mk (Kd.R_below (by exact Kd.R_to HO310.out) hb)
          have n4_ := Ax.mk (Kd.N_lower (Kd.N_mono (ok' := fun k_ => (w.heap.size ≤ k_) ∧ some k_ ≠ (.slice Ao42 x288001_2.length co42 : Value).ownBlock ∧ some k_ ≠ (.slice Ao48 t301.length co48 : Value).ownBlock ∧ k_ ≠ gb279 ∧ k_ ≠ gb280 ∧ k_ ≠ gb287 ∧ k_ ≠ gb297 ∧ k_ ≠ gb306 ∧ k_ ≠ gb317) ho0 (fun k_ hk_ => ⟨Or.elim hk_ (fun hs_ => Or.elim hs_ (fun hs_ => hs_.1.1.1) (fun hs_ => ((Kd.R_types (Kd.R_types (Kd.R_types (Kd.R_types (Kd.R_types (Kd.R_types (Kd.R_apart' (Kd.R_apart' (Kd.R_apart' (HO310.out) (Kd.N_typed HO_288001.out) (by decide)) (Kd.N_typed HO_298001.out) (by decide)) (Kd.N_typed HO303.out) (by decide)) BK279.out (by decide)) BK280.out (by decide)) BK287.out (by decide)) BK297.out (by decide)) BK306.out (by decide)) BK317.out (by decide)).1 k_ hs_.symm).1.1.1.1.1.1.1.1.1.1)) (fun hn_ => (Nat.le_trans (bS bA) hn_)), Or.elim hk_ (fun hs_ => Or.elim hs_ (fun hs_ => hs_.1.1.2.1) (fun hs_ => ((Kd.R_types (Kd.R_types (Kd.R_types (Kd.R_types (Kd.R_types (Kd.R_types (Kd.R_apart' (Kd.R_apart' (Kd.R_apart' (HO310.out) (Kd.N_typed HO_288001.out) (by decide)) (Kd.N_typed HO_298001.out) (by decide)) (Kd.N_typed HO303.out) (by decide)) BK279.out (by decide)) BK280.out (by decide)) BK287.out (by decide)) BK297.out (by decide)) BK306.out (by decide)) BK317.out (by decide)).1 k_ hs_.symm).1.1.1.1.1.1.1.1.2)) (fun hn_ => (Kd.fresh' (Kd.N_lt (by exact Kd.N_to HO_288001.out)) k_ hn_)), Or.elim hk_ (fun hs_ => Or.elim hs_ (fun hs_ => hs_.1.1.2.2.1) (fun hs_ => ((Kd.R_types (Kd.R_types (Kd.R_types (Kd.R_types (Kd.R_types (Kd.R_types (Kd.R_apart' (Kd.R_apart' (Kd.R_apart' (HO310.out) (Kd.N_typed HO_288001.out) (by decide)) (Kd.N_typed HO_298001.out) (by decide)) (Kd.N_typed HO303.out) (by decide)) BK279.out (by decide)) BK280.out (by decide)) BK287.out (by decide)) BK297.out (by decide)) BK306.out (by decide)) BK317.out (by decide)).1 k_ hs_.symm).1.1.1.1.1.1.2)) (fun hn_ => (Kd.fresh' (Kd.N_lt (by exact Kd.N_to HO303.out)) k_ hn_)), Or.elim hk_ (fun hs_ => Or.elim hs_ (fun hs_ => hs_.1.1.2.2.2.1) (fun hs_ => ((Kd.R_types (Kd.R_types (Kd.R_types (Kd.R_types (Kd.R_types (Kd.R_types (Kd.R_apart' (Kd.R_apart' (Kd.R_apart' (HO310.out) (Kd.N_typed HO_288001.out) (by decide)) (Kd.N_typed HO_298001.out) (by decide)) (Kd.N_typed HO303.out) (by decide)) BK279.out (by decide)) BK280.out (by decide)) BK287.out (by decide)) BK297.out (by decide)) BK306.out (by decide)) BK317.out (by decide)).1 k_ hs_.symm).1.1.1.1.1.2)) (fun hn_ => (Kd.freshB (g := gb279) (o := .cells #[.int .u64 x280000_2, .slice none 0 0, .string x280002_2] 66 (0, 0)) (bT BK279.out) k_ hn_)), Or.elim hk_ (fun hs_ => Or.elim hs_ (fun hs_ => hs_.1.1.2.2.2.2.1) (fun hs_ => ((Kd.R_types (Kd.R_types (Kd.R_types (Kd.R_types (Kd.R_types (Kd.R_types (Kd.R_apart' (Kd.R_apart' (Kd.R_apart' (HO310.out) (Kd.N_typed HO_288001.out) (by decide)) (Kd.N_typed HO_298001.out) (by decide)) (Kd.N_typed HO303.out) (by decide)) BK279.out (by decide)) BK280.out (by decide)) BK287.out (by decide)) BK297.out (by decide)) BK306.out (by decide)) BK317.out (by decide)).1 k_ hs_.symm).1.1.1.1.2)) (fun hn_ => (Kd.freshB (g := gb280) (o := .cells #[.int .u64 x281000_2, .slice none 0 0, .string x281002_2] 68 (0, 0)) (bT BK280.out) k_ hn_)), Or.elim hk_ (fun hs_ => Or.elim hs_ (fun hs_ => hs_.1.1.2.2.2.2.2.1) (fun hs_ => ((Kd.R_types (Kd.R_types (Kd.R_types (Kd.R_types (Kd.R_types (Kd.R_types (Kd.R_apart' (Kd.R_apart' (Kd.R_apart' (HO310.out) (Kd.N_typed HO_288001.out) (by decide)) (Kd.N_typed HO_298001.out) (by decide)) (Kd.N_typed HO303.out) (by decide)) BK279.out (by decide)) BK280.out (by decide)) BK287.out (by decide)) BK297.out (by decide)) BK306.out (by decide)) BK317.out (by decide)).1 k_ hs_.symm).1.1.1.2)) (fun hn_ => (Kd.freshB (g := gb287) (o := .cells #[.int .u64 x288000_2, .slice Ao42 x288001_2.length co42, .string x288002_2] 66 (0, 0)) (bT BK287.out) k_ hn_)), Or.elim hk_ (fun hs_ => Or.elim hs_ (fun hs_ => hs_.1.1.2.2.2.2.2.2.1) (fun hs_ => ((Kd.R_types (Kd.R_types (Kd.R_types (Kd.R_types (Kd.R_types (Kd.R_types (Kd.R_apart' (Kd.R_apart' (Kd.R_apart' (HO310.out) (Kd.N_typed HO_288001.out) (by decide)) (Kd.N_typed HO_298001.out) (by decide)) (Kd.N_typed HO303.out) (by decide)) BK279.out (by decide)) BK280.out (by decide)) BK287.out (by decide)) BK297.out (by decide)) BK306.out (by decide)) BK317.out (by decide)).1 k_ hs_.symm).1.1.2)) (fun hn_ => (Kd.freshB (g := gb297) (o := .cells #[.int .u64 x298000_2, .slice Ao51 x298001_2.length co51, .string x298002_2] 68 (0, 0)) (bT BK297.out) k_ hn_)), Or.elim hk_ (fun hs_ => Or.elim hs_ (fun hs_ => hs_.1.1.2.2.2.2.2.2.2) (fun hs_ => ((Kd.R_types (Kd.R_types (Kd.R_types (Kd.R_types (Kd.R_types (Kd.R_types (Kd.R_apart' (Kd.R_apart' (Kd.R_apart' (HO310.out) (Kd.N_typed HO_288001.out) (by decide)) (Kd.N_typed HO_298001.out) (by decide)) (Kd.N_typed HO303.out) (by decide)) BK279.out (by decide)) BK280.out (by decide)) BK287.out (by decide)) BK297.out (by decide)) BK306.out (by decide)) BK317.out (by decide)).1 k_ hs_.symm).1.2)) (fun hn_ => (Kd.freshB (g := gb306) (o := .cells #[.int .u64 t300, .slice Ao48 t301.length co48, .string t304] 66 (0, 0)) (bT BK306.out) k_ hn_)), Or.elim hk_ (fun hs_ => Or.elim hs_ (fun hs_ => hs_.1.2) (fun hs_ => ((Kd.R_types (Kd.R_types (Kd.R_types (Kd.R_types (Kd.R_types (Kd.R_types (Kd.R_apart' (Kd.R_apart' (Kd.R_apart' (HO310.out) (Kd.N_typed HO_288001.out) (by decide)) (Kd.N_typed HO_298001.out) (by decide)) (Kd.N_typed HO303.out) (by decide)) BK279.out (by decide)) BK280.out (by decide)) BK287.out (by decide)) BK297.out (by decide)) BK306.out (by decide)) BK317.out (by decide)).1 k_ hs_.symm).2)) (fun hn_ => (Kd.freshB (g := gb317) (o := .cells #[.int .u64 0, .slice none 0 0, .string (⟨#[]⟩ : ByteArray)] 68 (0, 0)) (bT BK317.out) k_ hn_))⟩)) (bS bA))
          have n5_ := Ax.mk (bB (bT BK279.out) hb)
          have n6_ := Ax.mk (bB (bT BK280.out) hb)
          have n7_ := Ax.mk (bB (bT BK287.out) hb)
          have n8_ := Ax.mk (bB (bT BK297.out) hb)
          have n9_ := Ax.mk (bB (bT BK306.out) hb)
          have n10_ := Ax.mk (bB (bT BK317.out) hb)
          have n11_ := Ax.mk (bP bA hb)
          clear HO_288001
          clear HO_298001
          clear HO303
          clear HO310
          clear BK279
          clear BK280
          clear BK287
          clear BK297
          clear BK306
          clear BK317
          clear HB
          have HO_288001 := n0_
          have HO_298001 := n1_
          have HO303 := n2_
          have HO310 := n3_
          have HO314 := n4_
          have BK279 := n5_
          have BK280 := n6_
          have BK287 := n7_
          have BK297 := n8_
          have BK306 := n9_
          have BK317 := n10_
          have HB := n11_
          clear n0_ n1_ n2_ n3_ n4_ n5_ n6_ n7_ n8_ n9_ n10_ n11_
          (try clear hb)
          (try clear hb2)
          (try clear hk)
          (try clear hi)
          (try clear ho0)
          refine hK.out _ _ ⟨(bC BK297.out 0).trans rfl, (bC BK297.out 1).trans rfl, (bC BK297.out 2).trans rfl, ((HB.out.cell (World.block_lt_of_cell? w _ hw307_0)).trans hw307_0)⟩ (fun hHeld => ?_)
          clear hK K
          refine norm_ (a' := ?_) ?_ ?_
          rotate_left
          ·show Act.put _ (some 64) _ = _
           simp only [Act.put, sI, sZ, sS, i64_w, i32_w]
           rfl
          refine pure_ (i := 7) (N := some 57) (v := ?_) (a' := ?_) #[true, true, true, true, true, true, true, true, false, false, true, false, false] rfl rfl (any_of HT_.out (by kernel_rfl)) (fun _ _ _ h => h) (Or.inl ⟨by rfl, ?_⟩) ?_ ?_
          rotate_left; · intro w'; go_simp; with_reducible rfl
          rotate_left; · simp only [Act.put, sI, sZ, sS, i64_w, i32_w]; rfl
          refine pure_ (i := 8) (N := some 65) (v := ?_) (a' := ?_) #[true, true, true, true, true, true, true, true, true, false, true, false, false] rfl rfl (any_of HT_.out (by kernel_rfl)) (fun _ _ _ h => h) (Or.inl ⟨by rfl, ?_⟩) ?_ ?_
          rotate_left; · intro w'; go_simp; with_reducible rfl
          rotate_left; · simp only [Act.put, sI, sZ, sS, i64_w, i32_w]; rfl
          refine pure_ (i := 9) (N := some 66) (v := ?_) (a' := ?_) (TF 11 2) rfl rfl (any_of HT_.out (by kernel_rfl)) (fun _ _ _ h => h) (Or.inl ⟨by rfl, ?_⟩) ?_ ?_
          rotate_left; · intro w'; go_simp; with_reducible rfl
          rotate_left; · simp only [Act.put, sI, sZ, sS, i64_w, i32_w]; rfl
          exact norm_ (by simp only [putAll, Act.put, sI, sZ, sS]) (hCont (.slice Ao56 t308.length co56, v313, gb317) _ ⟨hHeld, (by apply Kd.N_to; exact Kd.N_mono HO303.out (fun _ hk => ⟨hk.1.1.1.1, ⟨hk.1.2, ⟨hk.2, ⟨hk.1.1.1.2.1, ⟨hk.1.1.1.2.2.1, ⟨hk.1.1.1.2.2.2.1, ⟨hk.1.1.1.2.2.2.2.1, ⟨hk.1.1.1.2.2.2.2.2.1, ⟨hk.1.1.1.2.2.2.2.2.2, hk.1.1.2⟩⟩⟩⟩⟩⟩⟩⟩⟩)), (by apply Kd.R_to; exact Kd.R_mono HO310.out (fun _ hk => hk.1)), (by apply Kd.N_to; exact Kd.N_mono HO314.out (fun _ hk => ⟨hk.1, ⟨hk.2.2.1, ⟨hk.2.1, ⟨hk.2.2.2.1, ⟨hk.2.2.2.2.1, ⟨hk.2.2.2.2.2.1, ⟨hk.2.2.2.2.2.2.1, ⟨hk.2.2.2.2.2.2.2.1, hk.2.2.2.2.2.2.2.2⟩⟩⟩⟩⟩⟩⟩⟩)), (by apply Kd.N_to; exact Kd.N_mono HO_288001.out (fun _ hk => ⟨hk.1.1.1.1, ⟨hk.1.1.1.2.2.1, ⟨hk.1.2, ⟨hk.2, ⟨hk.1.1.1.2.1, ⟨hk.1.1.1.2.2.2.1, ⟨hk.1.1.1.2.2.2.2.1, ⟨hk.1.1.1.2.2.2.2.2.1, ⟨hk.1.1.1.2.2.2.2.2.2.1, ⟨hk.1.1.1.2.2.2.2.2.2.2, hk.1.1.2⟩⟩⟩⟩⟩⟩⟩⟩⟩⟩)), (by apply Kd.N_to; exact Kd.N_mono HO_298001.out (fun _ hk => ⟨hk.1.1.1.1, ⟨hk.1.1.1.2.2.1, ⟨hk.1.2, ⟨hk.2, ⟨hk.1.1.1.2.1, ⟨hk.1.1.1.2.2.2.1, ⟨hk.1.1.1.2.2.2.2.1, ⟨hk.1.1.1.2.2.2.2.2.1, ⟨hk.1.1.1.2.2.2.2.2.2.1, ⟨hk.1.1.1.2.2.2.2.2.2.2, hk.1.1.2⟩⟩⟩⟩⟩⟩⟩⟩⟩⟩)), (bT BK279.out), (bT BK280.out), (bT BK287.out), (bT BK297.out), (bT BK306.out), (bT BK317.out), GW317.out, GE317.out, NB279_317.out, NB317_279.out, NB280_317.out, NB317_280.out, NB287_317.out, NB317_287.out, NB297_317.out, NB317_297.out, NB306_317.out, NB317_306.out, bA⟩)
        rintro ⟨v309, v313, gb317⟩ w58 ⟨hS_, h0_, h1_, h2_, h3_, h4_, h5_, h6_, h7_, h8_, h9_, h10_, h11_, h12_, h13_, h14_, h15_, h16_, h17_, h18_, h19_, h20_, h21_, h22_, h23_⟩
        have n0_ : Ax (Kd.N k44 44 w58 w.heap.size (fun k_ => (w.heap.size ≤ k_) ∧ some k_ ≠ (v309 : Value).ownBlock ∧ some k_ ≠ (v313 : Value).ownBlock ∧ some k_ ≠ (.slice Ao51 x298001_2.length co51 : Value).ownBlock ∧ k_ ≠ gb279 ∧ k_ ≠ gb280 ∧ k_ ≠ gb287 ∧ k_ ≠ gb297 ∧ k_ ≠ gb306 ∧ k_ ≠ gb317) (.slice Ao48 t301.length co48) t301) := ⟨h0_⟩
        have n1_ : Ax (Kd.R k26 26 w58 w.heap.size (fun k_ => (w.heap.size ≤ k_)) v309 t308) := ⟨h1_⟩
        have n2_ : Ax (Kd.N k46 46 w58 w.heap.size (fun k_ => (w.heap.size ≤ k_) ∧ some k_ ≠ (.slice Ao48 t301.length co48 : Value).ownBlock ∧ some k_ ≠ (.slice Ao42 x288001_2.length co42 : Value).ownBlock ∧ k_ ≠ gb279 ∧ k_ ≠ gb280 ∧ k_ ≠ gb287 ∧ k_ ≠ gb297 ∧ k_ ≠ gb306 ∧ k_ ≠ gb317) v313 t312) := ⟨h2_⟩
        have n3_ : Ax (Kd.N k44 44 w58 w.heap.size (fun k_ => (w.heap.size ≤ k_) ∧ some k_ ≠ (.slice Ao48 t301.length co48 : Value).ownBlock ∧ some k_ ≠ (v309 : Value).ownBlock ∧ some k_ ≠ (v313 : Value).ownBlock ∧ some k_ ≠ (.slice Ao51 x298001_2.length co51 : Value).ownBlock ∧ k_ ≠ gb279 ∧ k_ ≠ gb280 ∧ k_ ≠ gb287 ∧ k_ ≠ gb297 ∧ k_ ≠ gb306 ∧ k_ ≠ gb317) (.slice Ao42 x288001_2.length co42) x288001_2) := ⟨h3_⟩
        have n4_ : Ax (Kd.N k46 46 w58 w.heap.size (fun k_ => (w.heap.size ≤ k_) ∧ some k_ ≠ (.slice Ao48 t301.length co48 : Value).ownBlock ∧ some k_ ≠ (v309 : Value).ownBlock ∧ some k_ ≠ (v313 : Value).ownBlock ∧ some k_ ≠ (.slice Ao42 x288001_2.length co42 : Value).ownBlock ∧ k_ ≠ gb279 ∧ k_ ≠ gb280 ∧ k_ ≠ gb287 ∧ k_ ≠ gb297 ∧ k_ ≠ gb306 ∧ k_ ≠ gb317) (.slice Ao51 x298001_2.length co51) x298001_2) := ⟨h4_⟩
        have n5_ : Ax (w58.heap[gb279]? = some (.cells #[.int .u64 x280000_2, .slice none 0 0, .string x280002_2] 66 (0, 0))) := ⟨h5_⟩
        have n6_ : Ax (w58.heap[gb280]? = some (.cells #[.int .u64 x281000_2, .slice none 0 0, .string x281002_2] 68 (0, 0))) := ⟨h6_⟩
        have n7_ : Ax (w58.heap[gb287]? = some (.cells #[.int .u64 x288000_2, .slice Ao42 x288001_2.length co42, .string x288002_2] 66 (0, 0))) := ⟨h7_⟩
        have n8_ : Ax (w58.heap[gb297]? = some (.cells #[.int .u64 x298000_2, .slice Ao51 x298001_2.length co51, .string x298002_2] 68 (0, 0))) := ⟨h8_⟩
        have n9_ : Ax (w58.heap[gb306]? = some (.cells #[.int .u64 t300, .slice Ao48 t301.length co48, .string t304] 66 (0, 0))) := ⟨h9_⟩
        have n10_ : Ax (w58.heap[gb317]? = some (.cells #[.int .u64 0, .slice none 0 0, .string (⟨#[]⟩ : ByteArray)] 68 (0, 0))) := ⟨h10_⟩
        have n11_ : Ax (w.heap.size ≤ gb317) := ⟨h11_⟩
        have n12_ : Ax (w.heap.size ≤ gb317) := ⟨h12_⟩
        have n13_ : Ax (gb279 ≠ gb317) := ⟨h13_⟩
        have n14_ : Ax (gb317 ≠ gb279) := ⟨h14_⟩
        have n15_ : Ax (gb280 ≠ gb317) := ⟨h15_⟩
        have n16_ : Ax (gb317 ≠ gb280) := ⟨h16_⟩
        have n17_ : Ax (gb287 ≠ gb317) := ⟨h17_⟩
        have n18_ : Ax (gb317 ≠ gb287) := ⟨h18_⟩
        have n19_ : Ax (gb297 ≠ gb317) := ⟨h19_⟩
        have n20_ : Ax (gb317 ≠ gb297) := ⟨h20_⟩
        have n21_ : Ax (gb306 ≠ gb317) := ⟨h21_⟩
        have n22_ : Ax (gb317 ≠ gb306) := ⟨h22_⟩
        have n23_ : Ax (Below w.heap.size w w58) := ⟨h23_⟩
        clear HO_288001
        clear HO_298001
        clear HO303
        clear BK279
        clear BK280
        clear BK287
        clear BK297
        clear BK306
        clear HB
        clear h0_ h1_ h2_ h3_ h4_ h5_ h6_ h7_ h8_ h9_ h10_ h11_ h12_ h13_ h14_ h15_ h16_ h17_ h18_ h19_ h20_ h21_ h22_ h23_
        have HO303 := n0_
        have HO310 := n1_
        have HO314 := n2_
        have HO_288001 := n3_
        have HO_298001 := n4_
        have BK279 := n5_
        have BK280 := n6_
        have BK287 := n7_
        have BK297 := n8_
        have BK306 := n9_
        have BK317 := n10_
        have GW317 := n11_
        have GE317 := n12_
        have NB279_317 := n13_
        have NB317_279 := n14_
        have NB280_317 := n15_
        have NB317_280 := n16_
        have NB287_317 := n17_
        have NB317_287 := n18_
        have NB297_317 := n19_
        have NB317_297 := n20_
        have NB306_317 := n21_
        have NB317_306 := n22_
        have HB := n23_
        clear n0_ n1_ n2_ n3_ n4_ n5_ n6_ n7_ n8_ n9_ n10_ n11_ n12_ n13_ n14_ n15_ n16_ n17_ n18_ n19_ n20_ n21_ n22_ n23_
        have hHeld : w58.cell? ⟨gb297, 0, none⟩ = some (.int .u64 x298000_2) ∧ w58.cell? ⟨gb297, 1, none⟩ = some (.slice Ao51 x298001_2.length co51) ∧ w58.cell? ⟨gb297, 2, none⟩ = some (.string x298002_2) ∧ w58.cell? (ad299.add (x13_2).toNat) = some (.slice A307_0 (rd_L4 l2 x13_2).length c307_0) := hS_
        obtain ⟨Ao60, co60, eo60⟩ := Kd.N_slice HO314.out
        (first | subst eo60 | (injection eo60 with f1_ f2_ f3_; have f4_ := f1_.symm; have f5_ := f3_.symm; clear f1_ f2_ f3_; subst f4_; subst f5_))
        refine norm_ (a' := ?_) ?_ ?_
        rotate_left
        ·simp only [putAll, Act.put, sI, sZ, sS]
         rfl
        refine one_ (i := 11) (N := none) (TF 12 1) rfl rfl (one_of HT_.out (by kernel_rfl)) (by decide) (fun K hK => ?_)
        have hs59 : w58.cell? ⟨gb317, 0, none⟩ = some (.int .u64 0) := (bC BK317.out 0).trans rfl
        have hfs59 := bF BK317.out 0
        have hns59_0 := NB279_317.out
        have hns59_1 := NB280_317.out
        have hns59_2 := NB287_317.out
        have hns59_3 := NB297_317.out
        have hns59_4 := NB306_317.out
        have hms59_0 := NB317_279.out
        have hms59_1 := NB317_280.out
        have hms59_2 := NB317_287.out
        have hms59_3 := NB317_297.out
        have hms59_4 := NB317_306.out
        have hs61 : w58.cell? ⟨gb317, 1, none⟩ = some (.slice none 0 0) := (bC BK317.out 1).trans rfl
        have hfs61 := bF BK317.out 1
        have hns61_0 := NB279_317.out
        have hns61_1 := NB280_317.out
        have hns61_2 := NB287_317.out
        have hns61_3 := NB297_317.out
        have hns61_4 := NB306_317.out
        have hms61_0 := NB317_279.out
        have hms61_1 := NB317_280.out
        have hms61_2 := NB317_287.out
        have hms61_3 := NB317_297.out
        have hms61_4 := NB317_306.out
        have hs62 : w58.cell? ⟨gb317, 2, none⟩ = some (.string (⟨#[]⟩ : ByteArray)) := (bC BK317.out 2).trans rfl
        have hfs62 := bF BK317.out 2
        have hns62_0 := NB279_317.out
        have hns62_1 := NB280_317.out
        have hns62_2 := NB287_317.out
        have hns62_3 := NB297_317.out
        have hns62_4 := NB306_317.out
        have hms62_0 := NB317_279.out
        have hms62_1 := NB317_280.out
        have hms62_2 := NB317_287.out
        have hms62_3 := NB317_297.out
        have hms62_4 := NB317_306.out
        refine skip_ (w1 := ?_) (by rfl) rfl ?_ ?_
        rotate_left
        ·go_simp
         rfl
        refine hK.out _ _ ⟨((cell_far (p := ⟨gb317, _, none⟩) NB297_317.out _).trans (((cell_far (p := ⟨gb317, _, none⟩) NB297_317.out _).trans (((cell_far (p := ⟨gb317, _, none⟩) NB297_317.out _).trans (hHeld.1)))))), ((cell_far (p := ⟨gb317, _, none⟩) NB297_317.out _).trans (((cell_far (p := ⟨gb317, _, none⟩) NB297_317.out _).trans (((cell_far (p := ⟨gb317, _, none⟩) NB297_317.out _).trans (hHeld.2.1)))))), ((cell_far (p := ⟨gb317, _, none⟩) NB297_317.out _).trans (((cell_far (p := ⟨gb317, _, none⟩) NB297_317.out _).trans (((cell_far (p := ⟨gb317, _, none⟩) NB297_317.out _).trans (hHeld.2.2.1)))))), ((cell_far (p := ⟨gb317, _, none⟩) (by first | exact Nat.ne_of_lt (Nat.lt_of_lt_of_le (by have := World.block_lt_of_cell? _ _ hw307_0; first | rwa [add_block] at this | exact this) GW317.out) | (rw [add_block]; exact Nat.ne_of_lt (Nat.lt_of_lt_of_le (by have := World.block_lt_of_cell? _ _ hw307_0; first | rwa [add_block] at this | exact this) GW317.out)) | (show (Addr.add _ _).block ≠ _; rw [add_block]; exact Nat.ne_of_lt (Nat.lt_of_lt_of_le (by have := World.block_lt_of_cell? _ _ hw307_0; first | rwa [add_block] at this | exact this) GW317.out)) | (dsimp only; exact Nat.ne_of_lt (Nat.lt_of_lt_of_le (by have := World.block_lt_of_cell? _ _ hw307_0; first | rwa [add_block] at this | exact this) GW317.out))) _).trans (((cell_far (p := ⟨gb317, _, none⟩) (by first | exact Nat.ne_of_lt (Nat.lt_of_lt_of_le (by have := World.block_lt_of_cell? _ _ hw307_0; first | rwa [add_block] at this | exact this) GW317.out) | (rw [add_block]; exact Nat.ne_of_lt (Nat.lt_of_lt_of_le (by have := World.block_lt_of_cell? _ _ hw307_0; first | rwa [add_block] at this | exact this) GW317.out)) | (show (Addr.add _ _).block ≠ _; rw [add_block]; exact Nat.ne_of_lt (Nat.lt_of_lt_of_le (by have := World.block_lt_of_cell? _ _ hw307_0; first | rwa [add_block] at this | exact this) GW317.out)) | (dsimp only; exact Nat.ne_of_lt (Nat.lt_of_lt_of_le (by have := World.block_lt_of_cell? _ _ hw307_0; first | rwa [add_block] at this | exact this) GW317.out))) _).trans (((cell_far (p := ⟨gb317, _, none⟩) (by first | exact Nat.ne_of_lt (Nat.lt_of_lt_of_le (by have := World.block_lt_of_cell? _ _ hw307_0; first | rwa [add_block] at this | exact this) GW317.out) | (rw [add_block]; exact Nat.ne_of_lt (Nat.lt_of_lt_of_le (by have := World.block_lt_of_cell? _ _ hw307_0; first | rwa [add_block] at this | exact this) GW317.out)) | (show (Addr.add _ _).block ≠ _; rw [add_block]; exact Nat.ne_of_lt (Nat.lt_of_lt_of_le (by have := World.block_lt_of_cell? _ _ hw307_0; first | rwa [add_block] at this | exact this) GW317.out)) | (dsimp only; exact Nat.ne_of_lt (Nat.lt_of_lt_of_le (by have := World.block_lt_of_cell? _ _ hw307_0; first | rwa [add_block] at this | exact this) GW317.out))) _).trans (hHeld.2.2.2))))))⟩ (fun hHeld => ?_)
        clear hK K
        refine pure_ (i := 12) (N := some 17) (v := ?_) (a' := ?_) (TF 13 0) rfl rfl (any_of HT_.out (by kernel_rfl)) (fun _ _ _ h => h) (Or.inl ⟨by rfl, ?_⟩) ?_ ?_
        rotate_left; · intro w'; go_simp; with_reducible rfl
        rotate_left; · simp only [Act.put, sI, sZ, sS, i64_w, i32_w]; rfl
        refine done_ (done_of HT_.out (by kernel_rfl)) ?_
        go_upto_region 10 with (fail)
        go_cut [75] (fun v75 wc => ∃ (kq : Nat) (x75_40 : Bool), v75 = .bool x75_40 ∧ Ax (l13_built.j2 kq l2 x13_2 t305 x75_40 x288000_2 x288001_2 x288002_2 x298000_2 x298001_2 x298002_2 t300 t301 t304 t311 t312 t315 = some (r1, r2, r3, r4, r5, r6, r7)) ∧ Ax (kq ≤ k2) ∧ Ax (Kd.N k44 44 wc w.heap.size (fun k_ => (w.heap.size ≤ k_) ∧ some k_ ≠ ((.slice Ao51 x298001_2.length co51) : Value).ownBlock ∧ some k_ ≠ ((.slice Ao48 t301.length co48) : Value).ownBlock ∧ some k_ ≠ ((.slice Ao60 t312.length co60) : Value).ownBlock ∧ k_ ≠ gb279 ∧ k_ ≠ gb280 ∧ k_ ≠ gb287 ∧ k_ ≠ gb297 ∧ k_ ≠ gb306 ∧ k_ ≠ gb317) (.slice Ao42 x288001_2.length co42) x288001_2) ∧ Ax (Kd.N k46 46 wc w.heap.size (fun k_ => (w.heap.size ≤ k_) ∧ some k_ ≠ ((.slice Ao42 x288001_2.length co42) : Value).ownBlock ∧ some k_ ≠ ((.slice Ao48 t301.length co48) : Value).ownBlock ∧ some k_ ≠ ((.slice Ao60 t312.length co60) : Value).ownBlock ∧ k_ ≠ gb279 ∧ k_ ≠ gb280 ∧ k_ ≠ gb287 ∧ k_ ≠ gb297 ∧ k_ ≠ gb306 ∧ k_ ≠ gb317) (.slice Ao51 x298001_2.length co51) x298001_2) ∧ Ax (Kd.N k44 44 wc w.heap.size (fun k_ => (w.heap.size ≤ k_) ∧ some k_ ≠ ((.slice Ao51 x298001_2.length co51) : Value).ownBlock ∧ some k_ ≠ ((.slice Ao60 t312.length co60) : Value).ownBlock ∧ k_ ≠ gb279 ∧ k_ ≠ gb280 ∧ k_ ≠ gb287 ∧ k_ ≠ gb297 ∧ k_ ≠ gb306 ∧ k_ ≠ gb317) (.slice Ao48 t301.length co48) t301) ∧ Ax (Kd.N k46 46 wc w.heap.size (fun k_ => (w.heap.size ≤ k_) ∧ some k_ ≠ ((.slice Ao42 x288001_2.length co42) : Value).ownBlock ∧ some k_ ≠ ((.slice Ao48 t301.length co48) : Value).ownBlock ∧ k_ ≠ gb279 ∧ k_ ≠ gb280 ∧ k_ ≠ gb287 ∧ k_ ≠ gb297 ∧ k_ ≠ gb306 ∧ k_ ≠ gb317) (.slice Ao60 t312.length co60) t312) ∧ Ax (wc.heap[gb279]? = some (.cells #[.int .u64 x280000_2, (.slice none 0 0), .string x280002_2] 66 (0, 0))) ∧ Ax (wc.heap[gb280]? = some (.cells #[.int .u64 x281000_2, (.slice none 0 0), .string x281002_2] 68 (0, 0))) ∧ Ax (wc.heap[gb287]? = some (.cells #[.int .u64 x288000_2, (.slice Ao42 x288001_2.length co42), .string x288002_2] 66 (0, 0))) ∧ Ax (wc.heap[gb297]? = some (.cells #[.int .u64 x298000_2, (.slice Ao51 x298001_2.length co51), .string x298002_2] 68 (0, 0))) ∧ Ax (wc.heap[gb306]? = some (.cells #[.int .u64 t300, (.slice Ao48 t301.length co48), .string t304] 66 (0, 0))) ∧ Ax (wc.heap[gb317]? = some (.cells #[.int .u64 t311, (.slice Ao60 t312.length co60), .string t315] 68 (0, 0))) ∧ Ax (Below w.heap.size w wc))
        case first =>
         have H := HC41.out
         clear HC41
         by_cases c63 : t305 = t316
         ·rw [if_pos c63] at H
          have c63b0 : (t305 == t316) = true := beq_iff_eq.mpr c63
          have c63b1 : (t305 != t316) = false := bne_eq_false_iff_eq.mpr c63
          clear c63
          (first | rw [c63b0] | (simp only [i64_w, i32_w]; rw [c63b0]) | skip)
          replace H := Option.bind_eq_some_iff.mp H
          obtain ⟨t318, A640, H⟩ := H
          replace H : (l13_built.j2 k2 l2 x13_2 t305 (!t318) x288000_2 x288001_2 x288002_2 x298000_2 x298001_2 x298002_2 t300 t301 t304 t311 t312 t315) = some (r1, r2, r3, r4, r5, r6, r7) := H
          have A64 := Ax.mk A640
          clear A640
          have H' := Ax.mk H
          clear H
          have hnb65 := NB306_279.out
          have hnc65 := NB279_306.out
          have hnb66 := NB306_280.out
          have hnc66 := NB280_306.out
          have hnb67 := NB306_287.out
          have hnc67 := NB287_306.out
          have hnb68 := NB306_297.out
          have hnc68 := NB297_306.out
          have hnb69 := NB306_317.out
          have hnc69 := NB317_306.out
          have hcz70_0 : w58.cell? ⟨gb306, 0, none⟩ = some (.int .u64 t300) := (bC BK306.out 0).trans rfl
          have hcz70_1 : w58.cell? ⟨gb306, 1, none⟩ = some (.slice Ao48 t301.length co48) := (bC BK306.out 1).trans rfl
          have hcz70_2 : w58.cell? ⟨gb306, 2, none⟩ = some (.string t304) := (bC BK306.out 2).trans rfl
          have hfz70_0 := bF BK306.out 0
          have hfz70_1 := bF BK306.out 1
          have hfz70_2 := bF BK306.out 2
          have hnb71 := NB317_279.out
          have hnc71 := NB279_317.out
          have hnb72 := NB317_280.out
          have hnc72 := NB280_317.out
          have hnb73 := NB317_287.out
          have hnc73 := NB287_317.out
          have hnb74 := NB317_297.out
          have hnc74 := NB297_317.out
          have hcz75_0 : w58.cell? ⟨gb317, 0, none⟩ = some (.int .u64 0) := (bC BK317.out 0).trans rfl
          have hcz75_1 : w58.cell? ⟨gb317, 1, none⟩ = some (.slice none 0 0) := (bC BK317.out 1).trans rfl
          have hcz75_2 : w58.cell? ⟨gb317, 2, none⟩ = some (.string (⟨#[]⟩ : ByteArray)) := (bC BK317.out 2).trans rfl
          have hfz75_0 := bF BK317.out 0
          have hfz75_1 := bF BK317.out 1
          have hfz75_2 := bF BK317.out 2
          go_wp2_with (first | (go_at_call 41; (with_reducible refine (l13_same.calls k2 t300 _ _ t301 t304 t311 _ _ t312 t315 t318 _ ?side1 ?side2 ?side3 ?side4 A64.out).mono ?_); (case side1 => refine (Kd.N_reads' (e := 44) (base := w.heap.size) (ok := fun k_ => ((w.heap.size ≤ k_) ∧ (some k_ ≠ (v309 : Value).ownBlock ∧ (some k_ ≠ (.slice Ao60 t312.length co60 : Value).ownBlock ∧ (some k_ ≠ (.slice Ao51 x298001_2.length co51 : Value).ownBlock ∧ (k_ ≠ gb279 ∧ (k_ ≠ gb280 ∧ (k_ ≠ gb287 ∧ (k_ ≠ gb297 ∧ (k_ ≠ gb306 ∧ k_ ≠ gb317)))))))))) (n := t301.length) (c := co48) ?_).2.2; exact (by apply Kd.N_to; exact (Kd.N_mono (Kd.N_far (p := ⟨gb317, 2, none⟩) (Kd.N_far (p := ⟨gb317, 1, none⟩) (Kd.N_far (p := ⟨gb317, 0, none⟩) (Kd.N_mono HO303.out (fun k_ hk => (⟨hk, hk.2.2.2.2.2.2.2.2.2⟩ : _ ∧ k_ ≠ gb317))) (fun _ hk => hk.2) (.int .u64 t311)) (fun _ hk => hk.2) (.slice Ao60 t312.length co60)) (fun _ hk => hk.2) (.string t315)) (fun _ h_ => h_.1)))); (case side2 => exact (Kd.N_reads' HO303.out).2.1); (case side3 => refine (Kd.N_reads' (e := 46) (base := w.heap.size) (ok := fun k_ => ((w.heap.size ≤ k_) ∧ (some k_ ≠ (.slice Ao48 t301.length co48 : Value).ownBlock ∧ (some k_ ≠ (.slice Ao42 x288001_2.length co42 : Value).ownBlock ∧ (k_ ≠ gb279 ∧ (k_ ≠ gb280 ∧ (k_ ≠ gb287 ∧ (k_ ≠ gb297 ∧ (k_ ≠ gb306 ∧ k_ ≠ gb317))))))))) (n := t312.length) (c := co60) ?_).2.2; exact (by apply Kd.N_to; exact (Kd.N_mono (Kd.N_far (p := ⟨gb317, 2, none⟩) (Kd.N_far (p := ⟨gb317, 1, none⟩) (Kd.N_far (p := ⟨gb317, 0, none⟩) (Kd.N_mono HO314.out (fun k_ hk => (⟨hk, hk.2.2.2.2.2.2.2.2⟩ : _ ∧ k_ ≠ gb317))) (fun _ hk => hk.2) (.int .u64 t311)) (fun _ hk => hk.2) (.slice Ao60 t312.length co60)) (fun _ hk => hk.2) (.string t315)) (fun _ h_ => h_.1)))); (case side4 => exact (Kd.N_reads' HO314.out).2.1); rintro e w76 ⟨rfl, hb⟩; have n0_ := Ax.mk (Kd.N_below (by apply Kd.N_to; exact (Kd.N_mono (Kd.N_far (p := ⟨gb317, 2, none⟩) (Kd.N_far (p := ⟨gb317, 1, none⟩) (Kd.N_far (p := ⟨gb317, 0, none⟩) (Kd.N_mono HO_288001.out (fun k_ hk => (⟨hk, hk.2.2.2.2.2.2.2.2.2.2⟩ : _ ∧ k_ ≠ gb317))) (fun _ hk => hk.2) (.int .u64 t311)) (fun _ hk => hk.2) (.slice Ao60 t312.length co60)) (fun _ hk => hk.2) (.string t315)) (fun _ h_ => h_.1))) hb); have n1_ := Ax.mk (Kd.N_below (by apply Kd.N_to; exact (Kd.N_mono (Kd.N_far (p := ⟨gb317, 2, none⟩) (Kd.N_far (p := ⟨gb317, 1, none⟩) (Kd.N_far (p := ⟨gb317, 0, none⟩) (Kd.N_mono HO_298001.out (fun k_ hk => (⟨hk, hk.2.2.2.2.2.2.2.2.2.2⟩ : _ ∧ k_ ≠ gb317))) (fun _ hk => hk.2) (.int .u64 t311)) (fun _ hk => hk.2) (.slice Ao60 t312.length co60)) (fun _ hk => hk.2) (.string t315)) (fun _ h_ => h_.1))) hb); have n2_ := Ax.mk (Kd.N_below (by apply Kd.N_to; exact (Kd.N_mono (Kd.N_far (p := ⟨gb317, 2, none⟩) (Kd.N_far (p := ⟨gb317, 1, none⟩) (Kd.N_far (p := ⟨gb317, 0, none⟩) (Kd.N_mono HO303.out (fun k_ hk => (⟨hk, hk.2.2.2.2.2.2.2.2.2⟩ : _ ∧ k_ ≠ gb317))) (fun _ hk => hk.2) (.int .u64 t311)) (fun _ hk => hk.2) (.slice Ao60 t312.length co60)) (fun _ hk => hk.2) (.string t315)) (fun _ h_ => h_.1))) hb); have n3_ := Ax.mk (Kd.R_below (by apply Kd.R_to; exact (Kd.R_mono (Kd.R_far (p := ⟨gb317, 2, none⟩) (Kd.R_far (p := ⟨gb317, 1, none⟩) (Kd.R_far (p := ⟨gb317, 0, none⟩) (Kd.R_types HO310.out BK317.out (by decide)) (fun _ hk => hk.2) (.int .u64 t311)) (fun _ hk => hk.2) (.slice Ao60 t312.length co60)) (fun _ hk => hk.2) (.string t315)) (fun _ h_ => h_.1))) hb); have n4_ := Ax.mk (Kd.N_below (by apply Kd.N_to; exact (Kd.N_mono (Kd.N_far (p := ⟨gb317, 2, none⟩) (Kd.N_far (p := ⟨gb317, 1, none⟩) (Kd.N_far (p := ⟨gb317, 0, none⟩) (Kd.N_mono HO314.out (fun k_ hk => (⟨hk, hk.2.2.2.2.2.2.2.2⟩ : _ ∧ k_ ≠ gb317))) (fun _ hk => hk.2) (.int .u64 t311)) (fun _ hk => hk.2) (.slice Ao60 t312.length co60)) (fun _ hk => hk.2) (.string t315)) (fun _ h_ => h_.1))) hb); have n5_ := Ax.mk (bB (g := gb279) (o := .cells #[.int .u64 x280000_2, .slice none 0 0, .string x280002_2] 66 (0, 0)) (by refine bT ?_; refine bR ?_ NB279_317.out _; refine bT ?_; refine bR ?_ NB279_317.out _; refine bT ?_; refine bR ?_ NB279_317.out _; exact bT BK279.out) hb); have n6_ := Ax.mk (bB (g := gb280) (o := .cells #[.int .u64 x281000_2, .slice none 0 0, .string x281002_2] 68 (0, 0)) (by refine bT ?_; refine bR ?_ NB280_317.out _; refine bT ?_; refine bR ?_ NB280_317.out _; refine bT ?_; refine bR ?_ NB280_317.out _; exact bT BK280.out) hb); have n7_ := Ax.mk (bB (g := gb287) (o := .cells #[.int .u64 x288000_2, .slice Ao42 x288001_2.length co42, .string x288002_2] 66 (0, 0)) (by refine bT ?_; refine bR ?_ NB287_317.out _; refine bT ?_; refine bR ?_ NB287_317.out _; refine bT ?_; refine bR ?_ NB287_317.out _; exact bT BK287.out) hb); have n8_ := Ax.mk (bB (g := gb297) (o := .cells #[.int .u64 x298000_2, .slice Ao51 x298001_2.length co51, .string x298002_2] 68 (0, 0)) (by refine bT ?_; refine bR ?_ NB297_317.out _; refine bT ?_; refine bR ?_ NB297_317.out _; refine bT ?_; refine bR ?_ NB297_317.out _; exact bT BK297.out) hb); have n9_ := Ax.mk (bB (g := gb306) (o := .cells #[.int .u64 t300, .slice Ao48 t301.length co48, .string t304] 66 (0, 0)) (by refine bT ?_; refine bR ?_ NB306_317.out _; refine bT ?_; refine bR ?_ NB306_317.out _; refine bT ?_; refine bR ?_ NB306_317.out _; exact bT BK306.out) hb); have n10_ := Ax.mk (bB (g := gb317) (o := .cells #[.int .u64 t311, .slice Ao60 t312.length co60, .string t315] 68 (0, 0)) (by refine bT ?_; refine bU (cs := #[.int .u64 t311, .slice Ao60 t312.length co60, .string (⟨#[]⟩ : ByteArray)]) ?_ 2 _ rfl; refine bT ?_; refine bU (cs := #[.int .u64 t311, .slice none 0 0, .string (⟨#[]⟩ : ByteArray)]) ?_ 1 _ rfl; refine bT ?_; refine bU (cs := #[.int .u64 0, .slice none 0 0, .string (⟨#[]⟩ : ByteArray)]) ?_ 0 _ rfl; exact bT BK317.out) hb); have n11_ := Ax.mk (bP bA hb); clear HO_288001; clear HO_298001; clear HO303; clear HO310; clear HO314; clear BK279; clear BK280; clear BK287; clear BK297; clear BK306; clear BK317; clear HB; have HO_288001 := n0_; have HO_298001 := n1_; have HO303 := n2_; have HO310 := n3_; have HO314 := n4_; have BK279 := n5_; have BK280 := n6_; have BK287 := n7_; have BK297 := n8_; have BK306 := n9_; have BK317 := n10_; have HB := n11_; clear n0_ n1_ n2_ n3_ n4_ n5_ n6_ n7_ n8_ n9_ n10_ n11_; (try clear hb); (try clear hb2); (try clear hk); (try clear hi)))
          go_meet
          case rel => exact ⟨_, (!t318), (by first | rfl | (simp; done) | (simp [*]; done)), H', ⟨by have := HJ6.out; have := HK2.out; first | omega | exact Nat.le_refl _⟩, ⟨by apply Kd.N_to; exact Kd.N_mono HO_288001.out (fun _ hk => ⟨hk.1, ⟨hk.2.2.2.2.1, ⟨hk.2.1, ⟨hk.2.2.2.1, ⟨hk.2.2.2.2.2.1, ⟨hk.2.2.2.2.2.2.1, ⟨hk.2.2.2.2.2.2.2.1, ⟨hk.2.2.2.2.2.2.2.2.1, ⟨hk.2.2.2.2.2.2.2.2.2.1, hk.2.2.2.2.2.2.2.2.2.2⟩⟩⟩⟩⟩⟩⟩⟩⟩)⟩, ⟨by apply Kd.N_to; exact Kd.N_mono HO_298001.out (fun _ hk => ⟨hk.1, ⟨hk.2.2.2.2.1, ⟨hk.2.1, ⟨hk.2.2.2.1, ⟨hk.2.2.2.2.2.1, ⟨hk.2.2.2.2.2.2.1, ⟨hk.2.2.2.2.2.2.2.1, ⟨hk.2.2.2.2.2.2.2.2.1, ⟨hk.2.2.2.2.2.2.2.2.2.1, hk.2.2.2.2.2.2.2.2.2.2⟩⟩⟩⟩⟩⟩⟩⟩⟩)⟩, ⟨by apply Kd.N_to; exact Kd.N_mono HO303.out (fun _ hk => ⟨hk.1, ⟨hk.2.2.2.1, ⟨hk.2.2.1, ⟨hk.2.2.2.2.1, ⟨hk.2.2.2.2.2.1, ⟨hk.2.2.2.2.2.2.1, ⟨hk.2.2.2.2.2.2.2.1, ⟨hk.2.2.2.2.2.2.2.2.1, hk.2.2.2.2.2.2.2.2.2⟩⟩⟩⟩⟩⟩⟩⟩)⟩, ⟨by apply Kd.N_to; exact Kd.N_mono HO314.out (fun _ hk => ⟨hk.1, ⟨hk.2.2.1, ⟨hk.2.1, ⟨hk.2.2.2.1, ⟨hk.2.2.2.2.1, ⟨hk.2.2.2.2.2.1, ⟨hk.2.2.2.2.2.2.1, ⟨hk.2.2.2.2.2.2.2.1, hk.2.2.2.2.2.2.2.2⟩⟩⟩⟩⟩⟩⟩⟩)⟩, ⟨by refine bT ?_; exact BK279.out⟩, ⟨by refine bT ?_; exact BK280.out⟩, ⟨by refine bT ?_; exact BK287.out⟩, ⟨by refine bT ?_; exact BK297.out⟩, ⟨by refine bT ?_; exact BK306.out⟩, ⟨by refine bT ?_; exact BK317.out⟩, ⟨bA⟩⟩
         ·rw [if_neg c63] at H
          have c63b0 : (t305 == t316) = false := beq_eq_false_iff_ne.mpr c63
          have c63b1 : (t305 != t316) = true := bne_iff_ne.mpr c63
          (first | rw [c63b0] | (simp only [i64_w, i32_w]; rw [c63b0]) | skip)
          have H' := Ax.mk H
          clear H
          go_wp2
          go_meet
          case rel => exact ⟨_, (true), (by first | rfl | (simp; done) | (simp [*]; done)), H', ⟨by have := HJ6.out; have := HK2.out; first | omega | exact Nat.le_refl _⟩, ⟨by apply Kd.N_to; exact Kd.N_mono (Kd.N_far (p := ⟨gb317, 2, none⟩) (Kd.N_far (p := ⟨gb317, 1, none⟩) (Kd.N_far (p := ⟨gb317, 0, none⟩) (Kd.N_mono HO_288001.out (fun k_ hk => (⟨hk, hk.2.2.2.2.2.2.2.2.2.2⟩ : _ ∧ k_ ≠ gb317))) (fun _ hk => hk.2) (.int .u64 t311)) (fun _ hk => hk.2) (.slice Ao60 t312.length co60)) (fun _ hk => hk.2) (.string t315)) (fun _ hk => ⟨hk.1.1, ⟨hk.1.2.2.2.2.1, ⟨hk.1.2.1, ⟨hk.1.2.2.2.1, ⟨hk.1.2.2.2.2.2.1, ⟨hk.1.2.2.2.2.2.2.1, ⟨hk.1.2.2.2.2.2.2.2.1, ⟨hk.1.2.2.2.2.2.2.2.2.1, ⟨hk.1.2.2.2.2.2.2.2.2.2.1, hk.1.2.2.2.2.2.2.2.2.2.2⟩⟩⟩⟩⟩⟩⟩⟩⟩)⟩, ⟨by apply Kd.N_to; exact Kd.N_mono (Kd.N_far (p := ⟨gb317, 2, none⟩) (Kd.N_far (p := ⟨gb317, 1, none⟩) (Kd.N_far (p := ⟨gb317, 0, none⟩) (Kd.N_mono HO_298001.out (fun k_ hk => (⟨hk, hk.2.2.2.2.2.2.2.2.2.2⟩ : _ ∧ k_ ≠ gb317))) (fun _ hk => hk.2) (.int .u64 t311)) (fun _ hk => hk.2) (.slice Ao60 t312.length co60)) (fun _ hk => hk.2) (.string t315)) (fun _ hk => ⟨hk.1.1, ⟨hk.1.2.2.2.2.1, ⟨hk.1.2.1, ⟨hk.1.2.2.2.1, ⟨hk.1.2.2.2.2.2.1, ⟨hk.1.2.2.2.2.2.2.1, ⟨hk.1.2.2.2.2.2.2.2.1, ⟨hk.1.2.2.2.2.2.2.2.2.1, ⟨hk.1.2.2.2.2.2.2.2.2.2.1, hk.1.2.2.2.2.2.2.2.2.2.2⟩⟩⟩⟩⟩⟩⟩⟩⟩)⟩, ⟨by apply Kd.N_to; exact Kd.N_mono (Kd.N_far (p := ⟨gb317, 2, none⟩) (Kd.N_far (p := ⟨gb317, 1, none⟩) (Kd.N_far (p := ⟨gb317, 0, none⟩) (Kd.N_mono HO303.out (fun k_ hk => (⟨hk, hk.2.2.2.2.2.2.2.2.2⟩ : _ ∧ k_ ≠ gb317))) (fun _ hk => hk.2) (.int .u64 t311)) (fun _ hk => hk.2) (.slice Ao60 t312.length co60)) (fun _ hk => hk.2) (.string t315)) (fun _ hk => ⟨hk.1.1, ⟨hk.1.2.2.2.1, ⟨hk.1.2.2.1, ⟨hk.1.2.2.2.2.1, ⟨hk.1.2.2.2.2.2.1, ⟨hk.1.2.2.2.2.2.2.1, ⟨hk.1.2.2.2.2.2.2.2.1, ⟨hk.1.2.2.2.2.2.2.2.2.1, hk.1.2.2.2.2.2.2.2.2.2⟩⟩⟩⟩⟩⟩⟩⟩)⟩, ⟨by apply Kd.N_to; exact Kd.N_mono (Kd.N_far (p := ⟨gb317, 2, none⟩) (Kd.N_far (p := ⟨gb317, 1, none⟩) (Kd.N_far (p := ⟨gb317, 0, none⟩) (Kd.N_mono HO314.out (fun k_ hk => (⟨hk, hk.2.2.2.2.2.2.2.2⟩ : _ ∧ k_ ≠ gb317))) (fun _ hk => hk.2) (.int .u64 t311)) (fun _ hk => hk.2) (.slice Ao60 t312.length co60)) (fun _ hk => hk.2) (.string t315)) (fun _ hk => ⟨hk.1.1, ⟨hk.1.2.2.1, ⟨hk.1.2.1, ⟨hk.1.2.2.2.1, ⟨hk.1.2.2.2.2.1, ⟨hk.1.2.2.2.2.2.1, ⟨hk.1.2.2.2.2.2.2.1, ⟨hk.1.2.2.2.2.2.2.2.1, hk.1.2.2.2.2.2.2.2.2⟩⟩⟩⟩⟩⟩⟩⟩)⟩, ⟨by refine bT ?_; refine bR ?_ NB279_317.out _; refine bT ?_; refine bR ?_ NB279_317.out _; refine bT ?_; refine bR ?_ NB279_317.out _; refine bT ?_; exact BK279.out⟩, ⟨by refine bT ?_; refine bR ?_ NB280_317.out _; refine bT ?_; refine bR ?_ NB280_317.out _; refine bT ?_; refine bR ?_ NB280_317.out _; refine bT ?_; exact BK280.out⟩, ⟨by refine bT ?_; refine bR ?_ NB287_317.out _; refine bT ?_; refine bR ?_ NB287_317.out _; refine bT ?_; refine bR ?_ NB287_317.out _; refine bT ?_; exact BK287.out⟩, ⟨by refine bT ?_; refine bR ?_ NB297_317.out _; refine bT ?_; refine bR ?_ NB297_317.out _; refine bT ?_; refine bR ?_ NB297_317.out _; refine bT ?_; exact BK297.out⟩, ⟨by refine bT ?_; refine bR ?_ NB306_317.out _; refine bT ?_; refine bR ?_ NB306_317.out _; refine bT ?_; refine bR ?_ NB306_317.out _; refine bT ?_; exact BK306.out⟩, ⟨by refine bT ?_; refine bU (cs := #[.int .u64 t311, .slice Ao60 t312.length co60, .string (⟨#[]⟩ : ByteArray)]) ?_ 2 _ rfl; refine bT ?_; refine bU (cs := #[.int .u64 t311, .slice none 0 0, .string (⟨#[]⟩ : ByteArray)]) ?_ 1 _ rfl; refine bT ?_; refine bU (cs := #[.int .u64 0, .slice none 0 0, .string (⟨#[]⟩ : ByteArray)]) ?_ 0 _ rfl; refine bT ?_; exact BK317.out⟩, ⟨bA⟩⟩
        case rest =>
         clear HC41
         try clear p2
         try clear c3
         try clear c4
         try clear c6
         try clear c7
         try clear c30
         try clear c40
         try clear c61
         try clear c63
         try clear c63b0
         try clear c63b1
         try clear c65
         try clear c66
         try clear c67
         try clear c68
         try clear c69
         try clear c71
         try clear c72
         try clear c73
         try clear c74
         try clear hcz70_0
         try clear hcz70_1
         try clear hcz70_2
         try clear hcz75_0
         try clear hcz75_1
         try clear hcz75_2
         try clear hfz70_0
         try clear hfz70_1
         try clear hfz70_2
         try clear hfz75_0
         try clear hfz75_1
         try clear hfz75_2
         obtain ⟨kq, x75_40, rfl, HA, HJ40, HO_288001, HO_298001, HO_307001, HO_318001, BK279, BK280, BK287, BK297, BK306, BK317, HB⟩ := hcut
         cases kq with
         | zero => exact absurd HA.out (by simp [l13_built.j2])
         | succ kj40 =>
          have H := HA.out
          clear HA
          simp only [l13_built.j2] at H
          by_cases c77 : x75_40 = true
          ·subst c77
           have H1 : (none) = some (r1, r2, r3, r4, r5, r6, r7) := by rw [if_pos rfl] at H; exact H
           clear H
           have H := H1
           clear H1
           exact absurd H (by simp)
          ·replace c77 := Bool.eq_false_iff.mpr c77
           subst c77
           have H1 : (if t305 = 0 then (l13_built.l0 kj40 l2 (wrap64 (x13_2 + 1)) t300 t301 t304 t311 t312 t315) else (l13_built.l0 kj40 l2 (wrap64 (x13_2 + 1)) x288000_2 x288001_2 x288002_2 x298000_2 x298001_2 x298002_2)) = some (r1, r2, r3, r4, r5, r6, r7) := by rw [if_neg (show ¬ (false = true) by decide)] at H; exact H
           clear H
           have H := H1
           clear H1
           by_cases c78 : t305 = 0
           ·rw [if_pos c78] at H
            have c78b0 : (t305 == 0) = true := beq_iff_eq.mpr c78
            have c78b1 : (t305 != 0) = false := bne_eq_false_iff_eq.mpr c78
            clear c78
            have H' := Ax.mk H
            clear H
            have hnb79 := NB306_279.out
            have hnc79 := NB279_306.out
            have hnb80 := NB306_280.out
            have hnc80 := NB280_306.out
            have hnb81 := NB306_287.out
            have hnc81 := NB287_306.out
            have hnb82 := NB306_297.out
            have hnc82 := NB297_306.out
            have hnb83 := NB306_317.out
            have hnc83 := NB317_306.out
            have hcz84_0 : wc.cell? ⟨gb306, 0, none⟩ = some (.int .u64 t300) := (bC BK306.out 0).trans rfl
            have hcz84_1 : wc.cell? ⟨gb306, 1, none⟩ = some (.slice Ao48 t301.length co48) := (bC BK306.out 1).trans rfl
            have hcz84_2 : wc.cell? ⟨gb306, 2, none⟩ = some (.string t304) := (bC BK306.out 2).trans rfl
            have hfz84_0 := bF BK306.out 0
            have hfz84_1 := bF BK306.out 1
            have hfz84_2 := bF BK306.out 2
            have hnb85 := NB287_279.out
            have hnc85 := NB279_287.out
            have hnb86 := NB287_280.out
            have hnc86 := NB280_287.out
            have hnb87 := NB287_297.out
            have hnc87 := NB297_287.out
            have hnb88 := NB287_317.out
            have hnc88 := NB317_287.out
            have hcz89_0 : wc.cell? ⟨gb287, 0, none⟩ = some (.int .u64 x288000_2) := (bC BK287.out 0).trans rfl
            have hcz89_1 : wc.cell? ⟨gb287, 1, none⟩ = some (.slice Ao42 x288001_2.length co42) := (bC BK287.out 1).trans rfl
            have hcz89_2 : wc.cell? ⟨gb287, 2, none⟩ = some (.string x288002_2) := (bC BK287.out 2).trans rfl
            have hfz89_0 := bF BK287.out 0
            have hfz89_1 := bF BK287.out 1
            have hfz89_2 := bF BK287.out 2
            have hnb90 := NB317_279.out
            have hnc90 := NB279_317.out
            have hnb91 := NB317_280.out
            have hnc91 := NB280_317.out
            have hnb92 := NB317_297.out
            have hnc92 := NB297_317.out
            have hcz93_0 : wc.cell? ⟨gb317, 0, none⟩ = some (.int .u64 t311) := (bC BK317.out 0).trans rfl
            have hcz93_1 : wc.cell? ⟨gb317, 1, none⟩ = some (.slice Ao60 t312.length co60) := (bC BK317.out 1).trans rfl
            have hcz93_2 : wc.cell? ⟨gb317, 2, none⟩ = some (.string t315) := (bC BK317.out 2).trans rfl
            have hfz93_0 := bF BK317.out 0
            have hfz93_1 := bF BK317.out 1
            have hfz93_2 := bF BK317.out 2
            have hnb94 := NB297_279.out
            have hnc94 := NB279_297.out
            have hnb95 := NB297_280.out
            have hnc95 := NB280_297.out
            have hcz96_0 : wc.cell? ⟨gb297, 0, none⟩ = some (.int .u64 x298000_2) := (bC BK297.out 0).trans rfl
            have hcz96_1 : wc.cell? ⟨gb297, 1, none⟩ = some (.slice Ao51 x298001_2.length co51) := (bC BK297.out 1).trans rfl
            have hcz96_2 : wc.cell? ⟨gb297, 2, none⟩ = some (.string x298002_2) := (bC BK297.out 2).trans rfl
            have hfz96_0 := bF BK297.out 0
            have hfz96_1 := bF BK297.out 1
            have hfz96_2 := bF BK297.out 2
            go_wp2
            go_roundg kj40
            case measure => have := HJ6.out; have := HK2.out; have := HJ40.out; omega
            case rel => exact ⟨(wrap64 (x13_2 + 1)), (x280000_2), (x280002_2), (x281000_2), (x281002_2), (t300), (t301), (t304), (t311), (t312), (t315), (.slice Ao48 t301.length co48), (.slice Ao60 t312.length co60), (by first | rfl | (simp; done) | (simp [*]; done)), H', ⟨by have := HJ6.out; have := HK2.out; have := HJ40.out; omega⟩, ⟨by apply Kd.N_to; exact Kd.N_mono (Kd.N_far (p := ⟨gb297, 2, none⟩) (Kd.N_far (p := ⟨gb297, 1, none⟩) (Kd.N_far (p := ⟨gb297, 0, none⟩) (Kd.N_far (p := ⟨gb287, 2, none⟩) (Kd.N_far (p := ⟨gb287, 1, none⟩) (Kd.N_far (p := ⟨gb287, 0, none⟩) (Kd.N_mono (Kd.N_mono HO_307001.out (fun k_ hk => (⟨hk, hk.2.2.2.2.2.1⟩ : _ ∧ k_ ≠ gb287))) (fun k_ hk => (⟨hk, hk.1.2.2.2.2.2.2.1⟩ : _ ∧ k_ ≠ gb297))) (fun _ hk => hk.1.2) (.int .u64 t300)) (fun _ hk => hk.1.2) (.slice Ao48 t301.length co48)) (fun _ hk => hk.1.2) (.string t304)) (fun _ hk => hk.2) (.int .u64 t311)) (fun _ hk => hk.2) (.slice Ao60 t312.length co60)) (fun _ hk => hk.2) (.string t315)) (fun _ hk => ⟨hk.1.1.1, ⟨hk.1.1.2.2.1, ⟨hk.1.1.2.2.2.1, ⟨hk.1.1.2.2.2.2.1, ⟨hk.1.1.2.2.2.2.2.1, hk.1.1.2.2.2.2.2.2.1⟩⟩⟩⟩⟩)⟩, ⟨by apply Kd.N_to; exact Kd.N_mono (Kd.N_far (p := ⟨gb297, 2, none⟩) (Kd.N_far (p := ⟨gb297, 1, none⟩) (Kd.N_far (p := ⟨gb297, 0, none⟩) (Kd.N_far (p := ⟨gb287, 2, none⟩) (Kd.N_far (p := ⟨gb287, 1, none⟩) (Kd.N_far (p := ⟨gb287, 0, none⟩) (Kd.N_mono (Kd.N_mono HO_318001.out (fun k_ hk => (⟨hk, hk.2.2.2.2.2.1⟩ : _ ∧ k_ ≠ gb287))) (fun k_ hk => (⟨hk, hk.1.2.2.2.2.2.2.1⟩ : _ ∧ k_ ≠ gb297))) (fun _ hk => hk.1.2) (.int .u64 t300)) (fun _ hk => hk.1.2) (.slice Ao48 t301.length co48)) (fun _ hk => hk.1.2) (.string t304)) (fun _ hk => hk.2) (.int .u64 t311)) (fun _ hk => hk.2) (.slice Ao60 t312.length co60)) (fun _ hk => hk.2) (.string t315)) (fun _ hk => ⟨hk.1.1.1, ⟨hk.1.1.2.2.1, ⟨hk.1.1.2.2.2.1, ⟨hk.1.1.2.2.2.2.1, ⟨hk.1.1.2.2.2.2.2.1, hk.1.1.2.2.2.2.2.2.1⟩⟩⟩⟩⟩)⟩, ⟨by refine bT ?_; refine bR ?_ NB279_297.out _; refine bT ?_; refine bR ?_ NB279_297.out _; refine bT ?_; refine bR ?_ NB279_297.out _; refine bT ?_; refine bR ?_ NB279_287.out _; refine bT ?_; refine bR ?_ NB279_287.out _; refine bT ?_; refine bR ?_ NB279_287.out _; refine bT ?_; exact BK279.out⟩, ⟨by refine bT ?_; refine bR ?_ NB280_297.out _; refine bT ?_; refine bR ?_ NB280_297.out _; refine bT ?_; refine bR ?_ NB280_297.out _; refine bT ?_; refine bR ?_ NB280_287.out _; refine bT ?_; refine bR ?_ NB280_287.out _; refine bT ?_; refine bR ?_ NB280_287.out _; refine bT ?_; exact BK280.out⟩, ⟨by refine bT ?_; refine bR ?_ NB287_297.out _; refine bT ?_; refine bR ?_ NB287_297.out _; refine bT ?_; refine bR ?_ NB287_297.out _; refine bT ?_; refine bU (cs := #[.int .u64 t300, .slice Ao48 t301.length co48, .string x288002_2]) ?_ 2 _ rfl; refine bT ?_; refine bU (cs := #[.int .u64 t300, .slice Ao42 x288001_2.length co42, .string x288002_2]) ?_ 1 _ rfl; refine bT ?_; refine bU (cs := #[.int .u64 x288000_2, .slice Ao42 x288001_2.length co42, .string x288002_2]) ?_ 0 _ rfl; refine bT ?_; exact BK287.out⟩, ⟨by refine bT ?_; refine bU (cs := #[.int .u64 t311, .slice Ao60 t312.length co60, .string x298002_2]) ?_ 2 _ rfl; refine bT ?_; refine bU (cs := #[.int .u64 t311, .slice Ao51 x298001_2.length co51, .string x298002_2]) ?_ 1 _ rfl; refine bT ?_; refine bU (cs := #[.int .u64 x298000_2, .slice Ao51 x298001_2.length co51, .string x298002_2]) ?_ 0 _ rfl; refine bT ?_; refine bR ?_ NB297_287.out _; refine bT ?_; refine bR ?_ NB297_287.out _; refine bT ?_; refine bR ?_ NB297_287.out _; refine bT ?_; exact BK297.out⟩, ⟨bA⟩⟩
           ·rw [if_neg c78] at H
            have c78b0 : (t305 == 0) = false := beq_eq_false_iff_ne.mpr c78
            have c78b1 : (t305 != 0) = true := bne_iff_ne.mpr c78
            have H' := Ax.mk H
            clear H
            go_wp2
            go_roundg kj40
            case measure => have := HJ6.out; have := HK2.out; have := HJ40.out; omega
            case rel => exact ⟨(wrap64 (x13_2 + 1)), (x280000_2), (x280002_2), (x281000_2), (x281002_2), (x288000_2), (x288001_2), (x288002_2), (x298000_2), (x298001_2), (x298002_2), (.slice Ao42 x288001_2.length co42), (.slice Ao51 x298001_2.length co51), (by first | rfl | (simp; done) | (simp [*]; done)), H', ⟨by have := HJ6.out; have := HK2.out; have := HJ40.out; omega⟩, ⟨by apply Kd.N_to; exact Kd.N_mono HO_288001.out (fun _ hk => ⟨hk.1, ⟨hk.2.1, ⟨hk.2.2.2.2.1, ⟨hk.2.2.2.2.2.1, ⟨hk.2.2.2.2.2.2.1, hk.2.2.2.2.2.2.2.1⟩⟩⟩⟩⟩)⟩, ⟨by apply Kd.N_to; exact Kd.N_mono HO_298001.out (fun _ hk => ⟨hk.1, ⟨hk.2.1, ⟨hk.2.2.2.2.1, ⟨hk.2.2.2.2.2.1, ⟨hk.2.2.2.2.2.2.1, hk.2.2.2.2.2.2.2.1⟩⟩⟩⟩⟩)⟩, ⟨by refine bT ?_; exact BK279.out⟩, ⟨by refine bT ?_; exact BK280.out⟩, ⟨by refine bT ?_; exact BK287.out⟩, ⟨by refine bT ?_; exact BK297.out⟩, ⟨bA⟩⟩
       ·rw [if_neg c37] at H
        exact absurd H (by simp)
      ·rw [if_neg c36] at H
       have c36b0 : decide (x13_2 < (l2.length : Int)) = false := decide_eq_false c36
       clear c36
       simp only [Option.some.injEq, Prod.mk.injEq] at H
       obtain ⟨rfl, rfl, rfl, rfl, rfl, rfl, rfl⟩ := H
       try go_wp2
       have n0_ := Ax.mk (Kd.N_drew HO_288001.out)
       have n1_ := Ax.mk (Kd.N_drew HO_298001.out)
       have n2_ := Ax.mk (blk_drew BK279.out)
       have n3_ := Ax.mk (blk_drew BK280.out)
       have n4_ := Ax.mk (blk_drew BK287.out)
       have n5_ := Ax.mk (blk_drew BK297.out)
       have n6_ := Ax.mk (below_drew1 HB.out)
       clear HO_288001
       clear HO_298001
       clear BK279
       clear BK280
       clear BK287
       clear BK297
       clear HB
       have HO_288001 := n0_
       have HO_298001 := n1_
       have BK279 := n2_
       have BK280 := n3_
       have BK287 := n4_
       have BK297 := n5_
       have HB := n6_
       clear n0_ n1_ n2_ n3_ n4_ n5_ n6_
       obtain ⟨Ao99, co99, eo99⟩ := Kd.N_slice HO_288001.out
       (first | subst eo99 | (injection eo99 with f1_ f2_ f3_; have f4_ := f1_.symm; have f5_ := f3_.symm; clear f1_ f2_ f3_; subst f4_; subst f5_))
       obtain ⟨Ao103, co103, eo103⟩ := Kd.N_slice HO_298001.out
       (first | subst eo103 | (injection eo103 with f1_ f2_ f3_; have f4_ := f1_.symm; have f5_ := f3_.symm; clear f1_ f2_ f3_; subst f4_; subst f5_))
       refine start_ (n := 5) (S := fun w' => w'.cell? ⟨gb287, 0, none⟩ = some (.int .u64 x288000_2) ∧ w'.cell? ⟨gb287, 1, none⟩ = some (.slice Ao99 x288001_2.length co99) ∧ w'.cell? ⟨gb287, 2, none⟩ = some (.string x288002_2) ∧ w'.cell? ⟨gb297, 0, none⟩ = some (.int .u64 x298000_2) ∧ w'.cell? ⟨gb297, 1, none⟩ = some (.slice Ao103 x298001_2.length co103) ∧ w'.cell? ⟨gb297, 2, none⟩ = some (.string x298002_2)) (ds := []) (TF 0 5) (by kernel_rfl) rfl rfl ⟨(bC BK287.out 0).trans rfl, (bC BK287.out 1).trans rfl, (bC BK287.out 2).trans rfl, (bC BK297.out 0).trans rfl, (bC BK297.out 1).trans rfl, (bC BK297.out 2).trans rfl⟩ (fun hHeld => ?_)
       generalize wr.drew = w97 at HO_288001 HO_298001 BK279 BK280 BK287 BK297 HB hHeld ⊢
       refine take_ (i := 0) (N := some 82) (v := ?_) (a' := ?_) (TF 1 4) rfl rfl (by kernel_rfl) (fun _ _ _ h => h) (Or.inl ⟨by rfl, ?_⟩) hHeld ?_ ?_
       rotate_left
       ·rintro w' ⟨s0, s1, s2, s3, s4, s5⟩
        go_simp
        with_reducible rfl
       rotate_left
       ·simp only [Act.put, sI, sZ, sS, i64_w, i32_w]
        rfl
       refine take_ (i := 1) (N := some 83) (v := ?_) (a' := ?_) (TF 2 3) rfl rfl (by kernel_rfl) (fun _ _ _ h => h) (Or.inl ⟨by rfl, ?_⟩) hHeld ?_ ?_
       rotate_left
       ·rintro w' ⟨s0, s1, s2, s3, s4, s5⟩
        go_simp
        with_reducible rfl
       rotate_left
       ·simp only [Act.put, sI, sZ, sS, i64_w, i32_w]
        rfl
       refine one_ (i := 2) (N := none) (TF 3 2) rfl rfl (by kernel_rfl) (by decide) (fun K hK => ?_)
       have hs98 : w97.cell? ⟨gb279, 0, none⟩ = some (.int .u64 x280000_2) := (bC BK279.out 0).trans rfl
       have hfs98 := bF BK279.out 0
       have hns98_1 := NB280_279.out
       have hns98_2 := NB287_279.out
       have hns98_3 := NB297_279.out
       have hms98_1 := NB279_280.out
       have hms98_2 := NB279_287.out
       have hms98_3 := NB279_297.out
       have hs100 : w97.cell? ⟨gb279, 1, none⟩ = some (.slice none 0 0) := (bC BK279.out 1).trans rfl
       have hfs100 := bF BK279.out 1
       have hns100_1 := NB280_279.out
       have hns100_2 := NB287_279.out
       have hns100_3 := NB297_279.out
       have hms100_1 := NB279_280.out
       have hms100_2 := NB279_287.out
       have hms100_3 := NB279_297.out
       have hs101 : w97.cell? ⟨gb279, 2, none⟩ = some (.string x280002_2) := (bC BK279.out 2).trans rfl
       have hfs101 := bF BK279.out 2
       have hns101_1 := NB280_279.out
       have hns101_2 := NB287_279.out
       have hns101_3 := NB297_279.out
       have hms101_1 := NB279_280.out
       have hms101_2 := NB279_287.out
       have hms101_3 := NB279_297.out
       refine skip_ (w1 := ?_) (by rfl) rfl ?_ ?_
       rotate_left
       ·go_simp
        rfl
       refine hK.out _ _ ⟨((cell_far (p := ⟨gb279, _, none⟩) NB287_279.out _).trans (((cell_far (p := ⟨gb279, _, none⟩) NB287_279.out _).trans (((cell_far (p := ⟨gb279, _, none⟩) NB287_279.out _).trans (hHeld.1)))))), ((cell_far (p := ⟨gb279, _, none⟩) NB287_279.out _).trans (((cell_far (p := ⟨gb279, _, none⟩) NB287_279.out _).trans (((cell_far (p := ⟨gb279, _, none⟩) NB287_279.out _).trans (hHeld.2.1)))))), ((cell_far (p := ⟨gb279, _, none⟩) NB287_279.out _).trans (((cell_far (p := ⟨gb279, _, none⟩) NB287_279.out _).trans (((cell_far (p := ⟨gb279, _, none⟩) NB287_279.out _).trans (hHeld.2.2.1)))))), ((cell_far (p := ⟨gb279, _, none⟩) NB297_279.out _).trans (((cell_far (p := ⟨gb279, _, none⟩) NB297_279.out _).trans (((cell_far (p := ⟨gb279, _, none⟩) NB297_279.out _).trans (hHeld.2.2.2.1)))))), ((cell_far (p := ⟨gb279, _, none⟩) NB297_279.out _).trans (((cell_far (p := ⟨gb279, _, none⟩) NB297_279.out _).trans (((cell_far (p := ⟨gb279, _, none⟩) NB297_279.out _).trans (hHeld.2.2.2.2.1)))))), ((cell_far (p := ⟨gb279, _, none⟩) NB297_279.out _).trans (((cell_far (p := ⟨gb279, _, none⟩) NB297_279.out _).trans (((cell_far (p := ⟨gb279, _, none⟩) NB297_279.out _).trans (hHeld.2.2.2.2.2))))))⟩ (fun hHeld => ?_)
       clear hK K
       refine one_ (i := 3) (N := none) (TF 4 1) rfl rfl (by kernel_rfl) (by decide) (fun K hK => ?_)
       have hs102 : w97.cell? ⟨gb280, 0, none⟩ = some (.int .u64 x281000_2) := (bC BK280.out 0).trans rfl
       have hfs102 := bF BK280.out 0
       have hns102_0 := NB279_280.out
       have hns102_2 := NB287_280.out
       have hns102_3 := NB297_280.out
       have hms102_0 := NB280_279.out
       have hms102_2 := NB280_287.out
       have hms102_3 := NB280_297.out
       have hs104 : w97.cell? ⟨gb280, 1, none⟩ = some (.slice none 0 0) := (bC BK280.out 1).trans rfl
       have hfs104 := bF BK280.out 1
       have hns104_0 := NB279_280.out
       have hns104_2 := NB287_280.out
       have hns104_3 := NB297_280.out
       have hms104_0 := NB280_279.out
       have hms104_2 := NB280_287.out
       have hms104_3 := NB280_297.out
       have hs105 : w97.cell? ⟨gb280, 2, none⟩ = some (.string x281002_2) := (bC BK280.out 2).trans rfl
       have hfs105 := bF BK280.out 2
       have hns105_0 := NB279_280.out
       have hns105_2 := NB287_280.out
       have hns105_3 := NB297_280.out
       have hms105_0 := NB280_279.out
       have hms105_2 := NB280_287.out
       have hms105_3 := NB280_297.out
       refine skip_ (w1 := ?_) (by rfl) rfl ?_ ?_
       rotate_left
       ·go_simp
        rfl
       refine hK.out _ _ ⟨((cell_far (p := ⟨gb280, _, none⟩) NB287_280.out _).trans (((cell_far (p := ⟨gb280, _, none⟩) NB287_280.out _).trans (((cell_far (p := ⟨gb280, _, none⟩) NB287_280.out _).trans (hHeld.1)))))), ((cell_far (p := ⟨gb280, _, none⟩) NB287_280.out _).trans (((cell_far (p := ⟨gb280, _, none⟩) NB287_280.out _).trans (((cell_far (p := ⟨gb280, _, none⟩) NB287_280.out _).trans (hHeld.2.1)))))), ((cell_far (p := ⟨gb280, _, none⟩) NB287_280.out _).trans (((cell_far (p := ⟨gb280, _, none⟩) NB287_280.out _).trans (((cell_far (p := ⟨gb280, _, none⟩) NB287_280.out _).trans (hHeld.2.2.1)))))), ((cell_far (p := ⟨gb280, _, none⟩) NB297_280.out _).trans (((cell_far (p := ⟨gb280, _, none⟩) NB297_280.out _).trans (((cell_far (p := ⟨gb280, _, none⟩) NB297_280.out _).trans (hHeld.2.2.2.1)))))), ((cell_far (p := ⟨gb280, _, none⟩) NB297_280.out _).trans (((cell_far (p := ⟨gb280, _, none⟩) NB297_280.out _).trans (((cell_far (p := ⟨gb280, _, none⟩) NB297_280.out _).trans (hHeld.2.2.2.2.1)))))), ((cell_far (p := ⟨gb280, _, none⟩) NB297_280.out _).trans (((cell_far (p := ⟨gb280, _, none⟩) NB297_280.out _).trans (((cell_far (p := ⟨gb280, _, none⟩) NB297_280.out _).trans (hHeld.2.2.2.2.2))))))⟩ (fun hHeld => ?_)
       clear hK K
       refine pure_ (i := 4) (N := some 8) (v := ?_) (a' := ?_) (TF 5 0) rfl rfl (by kernel_rfl) (fun _ _ _ h => h) (Or.inl ⟨by rfl, ?_⟩) ?_ ?_
       rotate_left; · intro w'; go_simp; with_reducible rfl
       rotate_left; · simp only [Act.put, sI, sZ, sS, i64_w, i32_w]; rfl
       refine done_ (by kernel_rfl) ?_
       try go_wp2
       refine bodyPost_ret (results_list (rs := [.cell 6 66, .cell 7 68, .tmp 8]) rfl (by simp) (.cell gb279 66 #[.int .u64 x288000_2, .slice Ao99 x288001_2.length co99, .string x288002_2] (0, 0) _ rfl (by refine bT ?_; refine bR ?_ NB279_280.out _; refine bT ?_; refine bR ?_ NB279_280.out _; refine bT ?_; refine bR ?_ NB279_280.out _; refine bT ?_; refine bU (cs := #[.int .u64 x288000_2, .slice Ao99 x288001_2.length co99, .string x280002_2]) ?_ 2 _ rfl; refine bT ?_; refine bU (cs := #[.int .u64 x288000_2, .slice none 0 0, .string x280002_2]) ?_ 1 _ rfl; refine bT ?_; refine bU (cs := #[.int .u64 x280000_2, .slice none 0 0, .string x280002_2]) ?_ 0 _ rfl; exact bT BK279.out) Tryd.underlying66 rfl (by kernel_rfl) (.cell gb280 68 #[.int .u64 x298000_2, .slice Ao103 x298001_2.length co103, .string x298002_2] (0, 0) _ rfl (by refine bT ?_; refine bU (cs := #[.int .u64 x298000_2, .slice Ao103 x298001_2.length co103, .string x281002_2]) ?_ 2 _ rfl; refine bT ?_; refine bU (cs := #[.int .u64 x298000_2, .slice none 0 0, .string x281002_2]) ?_ 1 _ rfl; refine bT ?_; refine bU (cs := #[.int .u64 x281000_2, .slice none 0 0, .string x281002_2]) ?_ 0 _ rfl; refine bT ?_; refine bR ?_ NB280_279.out _; refine bT ?_; refine bR ?_ NB280_279.out _; refine bT ?_; refine bR ?_ NB280_279.out _; exact bT BK280.out) Tryd.underlying68 rfl (by kernel_rfl) (.tmp .nil)))) rfl ?_
       exact ⟨_, _, by first | rfl | (simp [errW_none, errW_some] <;> rfl) | (simp [*, errW_none, errW_some] <;> rfl), by apply Kd.N_to; exact Kd.N_mono (Kd.N_far (p := ⟨gb280, 2, none⟩) (Kd.N_far (p := ⟨gb280, 1, none⟩) (Kd.N_far (p := ⟨gb280, 0, none⟩) (Kd.N_far (p := ⟨gb279, 2, none⟩) (Kd.N_far (p := ⟨gb279, 1, none⟩) (Kd.N_far (p := ⟨gb279, 0, none⟩) (Kd.N_mono (Kd.N_mono HO_288001.out (fun k_ hk => (⟨hk, hk.2.2.1⟩ : _ ∧ k_ ≠ gb279))) (fun k_ hk => (⟨hk, hk.1.2.2.2.1⟩ : _ ∧ k_ ≠ gb280))) (fun _ hk => hk.1.2) (.int .u64 x288000_2)) (fun _ hk => hk.1.2) (.slice Ao99 x288001_2.length co99)) (fun _ hk => hk.1.2) (.string x288002_2)) (fun _ hk => hk.2) (.int .u64 x298000_2)) (fun _ hk => hk.2) (.slice Ao103 x298001_2.length co103)) (fun _ hk => hk.2) (.string x298002_2)) (fun _ hk => ⟨hk.1.1.1, hk.1.1.2.1⟩), by apply Kd.N_to; exact Kd.N_mono (Kd.N_far (p := ⟨gb280, 2, none⟩) (Kd.N_far (p := ⟨gb280, 1, none⟩) (Kd.N_far (p := ⟨gb280, 0, none⟩) (Kd.N_far (p := ⟨gb279, 2, none⟩) (Kd.N_far (p := ⟨gb279, 1, none⟩) (Kd.N_far (p := ⟨gb279, 0, none⟩) (Kd.N_mono (Kd.N_mono HO_298001.out (fun k_ hk => (⟨hk, hk.2.2.1⟩ : _ ∧ k_ ≠ gb279))) (fun k_ hk => (⟨hk, hk.1.2.2.2.1⟩ : _ ∧ k_ ≠ gb280))) (fun _ hk => hk.1.2) (.int .u64 x288000_2)) (fun _ hk => hk.1.2) (.slice Ao99 x288001_2.length co99)) (fun _ hk => hk.1.2) (.string x288002_2)) (fun _ hk => hk.2) (.int .u64 x298000_2)) (fun _ hk => hk.2) (.slice Ao103 x298001_2.length co103)) (fun _ hk => hk.2) (.string x298002_2)) (fun _ hk => ⟨hk.1.1.1, hk.1.1.2.1⟩), bA⟩
def l13_shortSteps.l0 : Nat → List (S24) → Int → Option (Bool)
 | 0, _, _ => none
 | k + 1, x0, x3 => if x3 < (x0.length : Int) then (if 0 ≤ x3 then (if (((rd_T24 x0 x3).f4).size : Int) > 200 then (some false) else (l13_shortSteps.l0 k x0 (wrap64 (x3 + 1)))) else (none)) else (some true)
def l13_shortSteps.f (k : Nat) (l0 : List (S24)) : Option (Bool) := if (l0.length : Int) > 60 then (some false) else (l13_shortSteps.l0 k l0 0)
theorem l13_shortSteps.mono_l : ∀ k, (∀ y0 y1, LeO (l13_shortSteps.l0 k y0 y1) (l13_shortSteps.l0 (k + 1) y0 y1))
 | 0 => fun _ _ r h => by simp [l13_shortSteps.l0] at h
 | k + 1 => by
  have ih0 := l13_shortSteps.mono_l k
  ·intro y0 y1
   unfold l13_shortSteps.l0
   repeat' first
   | (with_reducible exact ih0 _ _)
   | (with_reducible exact LeO.refl _)
   | (with_reducible exact LeO.none _)
   | (with_reducible refine LeO.ite ?_ ?_)
   | (with_reducible refine LeO.bind ?_ (fun _ => ?_))
   | exact ih0 _ _
   | exact LeO.none _
   | refine LeO.ite ?_ ?_
   | refine LeO.bind ?_ (fun _ => ?_)
theorem l13_shortSteps.mono : ∀ a0 k, LeO (l13_shortSteps.f k a0) (l13_shortSteps.f (k + 1) a0) := by
 intro a0 k
 have ih0 := l13_shortSteps.mono_l k
 unfold l13_shortSteps.f
 repeat' first
   | (with_reducible exact ih0 _ _)
   | (with_reducible exact LeO.refl _)
   | (with_reducible exact LeO.none _)
   | (with_reducible refine LeO.ite ?_ ?_)
   | (with_reducible refine LeO.bind ?_ (fun _ => ?_))
   | exact ih0 _ _
   | exact LeO.none _
   | refine LeO.ite ?_ ?_
   | refine LeO.bind ?_ (fun _ => ?_)
set_option maxHeartbeats 8000000 in
set_option maxRecDepth 100000 in
theorem l13_shortSteps.calls (k : Nat) (A0 : Option Addr) (c0 : Nat) (l0 : List (S24)) (r : Bool) (w : World) (hr0 : Kd.C k24 w A0 l0.length l0) (hc0 : l0.length ≤ c0) (h : l13_shortSteps.f k l0 = some r) :
  Calls Tryd.prog 32 #[.slice A0 l0.length c0] w fun e w' => e = .returned (.bool r) ∧ Drawn0 w w' := by
 have HR0 := Ax.mk hr0
 have HC0 := Ax.mk hc0
 clear hr0 hc0
 have H : (if (l0.length : Int) > 60 then (some false) else (l13_shortSteps.l0 k l0 0)) = some r := h
 clear h
 by_cases c2 : (l0.length : Int) > 60
 ·rw [if_pos c2] at H
  have c2b0 : decide (60 < (l0.length : Int)) = true := decide_eq_true c2
  have c2b1 : decide (60 < l0.length) = true := decide_eq_true (by omega)
  clear c2
  obtain rfl := Option.some.inj H
  go_enter Tryd.func32, Tryd.ntmps32
  go_wp2
  go_ret
  exact ⟨by first | rfl | (simp; done) | (simp [*]; done), by repeat (first | exact Drawn0.refl _ | apply Drawn0.step)⟩
 ·rw [if_neg c2] at H
  have c2b0 : decide (60 < (l0.length : Int)) = false := decide_eq_false c2
  have c2b1 : decide (60 < l0.length) = false := decide_eq_false (by omega)
  clear c2
  have H' := Ax.mk H
  clear H
  go_enter Tryd.func32, Tryd.ntmps32
  go_wp2
  go_loopg [3] k (fun kq v3 w' => ∃ (x3_1 : Int), v3 = .int .i64 x3_1 ∧ Ax (l13_shortSteps.l0 kq l0 x3_1 = some r) ∧ Ax (kq ≤ k) ∧ Drawn0 w w')
  case atStart => exact ⟨(0), (by first | rfl | (simp; done) | (simp [*]; done)), H', ⟨Nat.le_refl _⟩, by repeat (first | exact Drawn0.refl _ | apply Drawn0.step)⟩
  case round =>
   clear H'
   try clear c2
   try clear c2b0
   try clear c2b1
   try clear p2
   obtain ⟨x3_1, rfl, HA, HK1, ⟨m1, rfl⟩⟩ := hrel
   cases gk with
   | zero => exact absurd HA.out (by simp [l13_shortSteps.l0])
   | succ k1 =>
    have H := HA.out
    clear HA
    simp only [l13_shortSteps.l0] at H
    by_cases c3 : x3_1 < (l0.length : Int)
    ·rw [if_pos c3] at H
     have c3b0 : decide (x3_1 < (l0.length : Int)) = true := decide_eq_true c3
     clear c3
     by_cases c4 : 0 ≤ x3_1
     ·rw [if_pos c4] at H
      have c4b0 : decide (0 ≤ x3_1) = true := decide_eq_true c4
      clear c4
      by_cases c5 : (((rd_T24 l0 x3_1).f4).size : Int) > 200
      ·rw [if_pos c5] at H
       have c5b0 : decide (200 < (((rd_T24 l0 x3_1).f4).size : Int)) = true := decide_eq_true c5
       have c5b1 : decide (200 < ((rd_T24 l0 x3_1).f4).size) = true := decide_eq_true (by omega)
       clear c5
       obtain rfl := Option.some.inj H
       have p201 : 0 ≤ (x3_1 : Int) := of_decide_eq_true (by first | (with_reducible assumption) | assumption)
       have q201 : x3_1 < (l0.length : Int) := of_decide_eq_true (by first | (with_reducible assumption) | assumption)
       obtain ⟨ad201, e201, hx201_0, hx201_1, hx201_2, hx201_3, hx201_4⟩ := at_T24 HR0.out x3_1 p201 q201
       cases e201
       replace p201 := eq_true p201
       replace q201 := eq_true q201
       go_wp2
       go_ret
       exact ⟨by first | rfl | (simp; done) | (simp [*]; done), by repeat (first | exact Drawn0.refl _ | apply Drawn0.step)⟩
      ·rw [if_neg c5] at H
       have c5b0 : decide (200 < (((rd_T24 l0 x3_1).f4).size : Int)) = false := decide_eq_false c5
       have c5b1 : decide (200 < ((rd_T24 l0 x3_1).f4).size) = false := decide_eq_false (by omega)
       clear c5
       have H' := Ax.mk H
       clear H
       have p201 : 0 ≤ (x3_1 : Int) := of_decide_eq_true (by first | (with_reducible assumption) | assumption)
       have q201 : x3_1 < (l0.length : Int) := of_decide_eq_true (by first | (with_reducible assumption) | assumption)
       obtain ⟨ad201, e201, hx201_0, hx201_1, hx201_2, hx201_3, hx201_4⟩ := at_T24 HR0.out x3_1 p201 q201
       cases e201
       replace p201 := eq_true p201
       replace q201 := eq_true q201
       go_wp2
       go_roundg k1
       case measure => have := HK1.out; omega
       case rel => exact ⟨(wrap64 (x3_1 + 1)), (by first | rfl | (simp; done) | (simp [*]; done)), H', ⟨by have := HK1.out; omega⟩, by repeat (first | exact Drawn0.refl _ | apply Drawn0.step)⟩
     ·rw [if_neg c4] at H
      exact absurd H (by simp)
    ·rw [if_neg c3] at H
     have c3b0 : decide (x3_1 < (l0.length : Int)) = false := decide_eq_false c3
     clear c3
     obtain rfl := Option.some.inj H
     go_wp2
     go_ret
     exact ⟨by first | rfl | (simp; done) | (simp [*]; done), by repeat (first | exact Drawn0.refl _ | apply Drawn0.step)⟩
def l13_short.l0 : Nat → List (List (S24)) → Int → Option (Bool)
 | 0, _, _ => none
 | k + 1, x0, x3 => if x3 < (x0.length : Int) then (if 0 ≤ x3 then ((l13_shortSteps.f k (rd_L4 x0 x3)).bind fun t203 => (if t203 = true then (if ((rd_L4 x0 x3).length : Int) > 12 then (some false) else (l13_short.l0 k x0 (wrap64 (x3 + 1)))) else (some false))) else (none)) else (some true)
def l13_short.f (k : Nat) (l0 : List (List (S24))) : Option (Bool) := if (l0.length : Int) > 12 then (some false) else (l13_short.l0 k l0 0)
theorem l13_short.mono_l : ∀ k, (∀ y0 y1, LeO (l13_short.l0 k y0 y1) (l13_short.l0 (k + 1) y0 y1))
 | 0 => fun _ _ r h => by simp [l13_short.l0] at h
 | k + 1 => by
  have ih0 := l13_short.mono_l k
  ·intro y0 y1
   unfold l13_short.l0
   repeat' first
   | (with_reducible exact ih0 _ _)
   | (with_reducible exact l13_shortSteps.mono _ _)
   | (with_reducible exact LeO.refl _)
   | (with_reducible exact LeO.none _)
   | (with_reducible refine LeO.ite ?_ ?_)
   | (with_reducible refine LeO.bind ?_ (fun _ => ?_))
   | exact ih0 _ _
   | exact l13_shortSteps.mono _ _
   | exact LeO.none _
   | refine LeO.ite ?_ ?_
   | refine LeO.bind ?_ (fun _ => ?_)
theorem l13_short.mono : ∀ a0 k, LeO (l13_short.f k a0) (l13_short.f (k + 1) a0) := by
 intro a0 k
 have ih0 := l13_short.mono_l k
 unfold l13_short.f
 repeat' first
   | (with_reducible exact ih0 _ _)
   | (with_reducible exact l13_shortSteps.mono _ _)
   | (with_reducible exact LeO.refl _)
   | (with_reducible exact LeO.none _)
   | (with_reducible refine LeO.ite ?_ ?_)
   | (with_reducible refine LeO.bind ?_ (fun _ => ?_))
   | exact ih0 _ _
   | exact l13_shortSteps.mono _ _
   | exact LeO.none _
   | refine LeO.ite ?_ ?_
   | refine LeO.bind ?_ (fun _ => ?_)
set_option maxHeartbeats 8000000 in
set_option maxRecDepth 100000 in
theorem l13_short.calls (k : Nat) (A0 : Option Addr) (c0 : Nat) (l0 : List (List (S24))) (r : Bool) (w : World) (hr0 : Kd.C (Kd.slice 24 k24) w A0 l0.length l0) (hc0 : l0.length ≤ c0) (h : l13_short.f k l0 = some r) :
  Calls Tryd.prog 33 #[.slice A0 l0.length c0] w fun e w' => e = .returned (.bool r) ∧ Drawn0 w w' := by
 have HR0 := Ax.mk hr0
 have HC0 := Ax.mk hc0
 clear hr0 hc0
 have H : (if (l0.length : Int) > 12 then (some false) else (l13_short.l0 k l0 0)) = some r := h
 clear h
 by_cases c2 : (l0.length : Int) > 12
 ·rw [if_pos c2] at H
  have c2b0 : decide (12 < (l0.length : Int)) = true := decide_eq_true c2
  have c2b1 : decide (12 < l0.length) = true := decide_eq_true (by omega)
  clear c2
  obtain rfl := Option.some.inj H
  go_enter Tryd.func33, Tryd.ntmps33
  go_wp2
  go_ret
  exact ⟨by first | rfl | (simp; done) | (simp [*]; done), by repeat (first | exact Drawn0.refl _ | apply Drawn0.step)⟩
 ·rw [if_neg c2] at H
  have c2b0 : decide (12 < (l0.length : Int)) = false := decide_eq_false c2
  have c2b1 : decide (12 < l0.length) = false := decide_eq_false (by omega)
  clear c2
  have H' := Ax.mk H
  clear H
  go_enter Tryd.func33, Tryd.ntmps33
  go_wp2
  go_loopg [3] k (fun kq v3 w' => ∃ (x3_1 : Int), v3 = .int .i64 x3_1 ∧ Ax (l13_short.l0 kq l0 x3_1 = some r) ∧ Ax (kq ≤ k) ∧ Drawn0 w w')
  case atStart => exact ⟨(0), (by first | rfl | (simp; done) | (simp [*]; done)), H', ⟨Nat.le_refl _⟩, by repeat (first | exact Drawn0.refl _ | apply Drawn0.step)⟩
  case round =>
   clear H'
   try clear c2
   try clear c2b0
   try clear c2b1
   try clear p2
   obtain ⟨x3_1, rfl, HA, HK1, ⟨m1, rfl⟩⟩ := hrel
   cases gk with
   | zero => exact absurd HA.out (by simp [l13_short.l0])
   | succ k1 =>
    have H := HA.out
    clear HA
    simp only [l13_short.l0] at H
    by_cases c3 : x3_1 < (l0.length : Int)
    ·rw [if_pos c3] at H
     have c3b0 : decide (x3_1 < (l0.length : Int)) = true := decide_eq_true c3
     clear c3
     by_cases c4 : 0 ≤ x3_1
     ·rw [if_pos c4] at H
      have c4b0 : decide (0 ≤ x3_1) = true := decide_eq_true c4
      clear c4
      replace H := Option.bind_eq_some_iff.mp H
      obtain ⟨t203, A50, H⟩ := H
      replace H : (if t203 = true then (if ((rd_L4 l0 x3_1).length : Int) > 12 then (some false) else (l13_short.l0 k1 l0 (wrap64 (x3_1 + 1)))) else (some false)) = some r := H
      have A5 := Ax.mk A50
      clear A50
      by_cases c6 : t203 = true
      ·subst c6
       have H1 : (if ((rd_L4 l0 x3_1).length : Int) > 12 then (some false) else (l13_short.l0 k1 l0 (wrap64 (x3_1 + 1)))) = some r := by rw [if_pos rfl] at H; exact H
       clear H
       have H := H1
       clear H1
       by_cases c7 : ((rd_L4 l0 x3_1).length : Int) > 12
       ·rw [if_pos c7] at H
        have c7b0 : decide (12 < ((rd_L4 l0 x3_1).length : Int)) = true := decide_eq_true c7
        have c7b1 : decide (12 < (rd_L4 l0 x3_1).length) = true := decide_eq_true (by omega)
        clear c7
        obtain rfl := Option.some.inj H
        have p202 : 0 ≤ (x3_1 : Int) := of_decide_eq_true (by first | (with_reducible assumption) | assumption)
        have q202 : x3_1 < (l0.length : Int) := of_decide_eq_true (by first | (with_reducible assumption) | assumption)
        obtain ⟨ad202, A202_0, c202_0, e202, hx202_0, hl202_0, hi202_0⟩ := at_L4 HR0.out x3_1 p202 q202
        cases e202
        have HR202_0 := Ax.mk hi202_0
        have HC202_0 := Ax.mk hl202_0
        clear hi202_0 hl202_0
        replace p202 := eq_true p202
        replace q202 := eq_true q202
        go_wp2_with (first | ((with_reducible refine gate_callee (f := 32) rfl ?_); refine goesL_ (some 18) rfl rfl Tryd.func32 (by kernel_rfl) rfl #[.slice A202_0 (rd_L4 l0 x3_1).length c202_0] rfl (by (try simp only [List.map_toArray, List.map_cons, List.map_nil]); first | done | rfl | (simp only [List.length_drop, List.length_take]; rfl) | (rw [wrap_sum2 (by assumption)]; rfl)) ?_; (with_reducible refine (l13_shortSteps.calls k1 _ _ (rd_L4 l0 x3_1) true _ ?side1 ?side2 A5.out).mono ?_); (case side1 => repeat (first | exact HR202_0.out | (with_reducible refine Kd.C_alloc ?_ _) | (with_reducible refine Kd.C_drewN ?_ _) | (with_reducible refine Kd.C_drew ?_))); (case side2 => exact HC202_0.out); rintro e w' ⟨rfl, ⟨nd, rfl⟩⟩; refine ⟨_, rfl, ?_⟩; have p204 : 0 ≤ (x3_1 : Int) := of_decide_eq_true (by first | (with_reducible assumption) | assumption); have q204 : x3_1 < (l0.length : Int) := of_decide_eq_true (by first | (with_reducible assumption) | assumption); obtain ⟨ad204, A204_0, c204_0, e204, hx204_0, hl204_0, hi204_0⟩ := at_L4 HR0.out x3_1 p204 q204; obtain rfl : ad202 = ad204 := (by injection e204); have HR204_0 := Ax.mk hi204_0; have HC204_0 := Ax.mk hl204_0; clear hi204_0 hl204_0; replace p204 := eq_true p204; replace q204 := eq_true q204; have ea_ := Option.some.inj (hx202_0.symm.trans hx204_0); injection ea_ with ea_ en_ ec_; subst ea_; subst ec_; clear en_))
        go_ret
        exact ⟨by first | rfl | (simp; done) | (simp [*]; done), by repeat (first | exact Drawn0.refl _ | apply Drawn0.step)⟩
       ·rw [if_neg c7] at H
        have c7b0 : decide (12 < ((rd_L4 l0 x3_1).length : Int)) = false := decide_eq_false c7
        have c7b1 : decide (12 < (rd_L4 l0 x3_1).length) = false := decide_eq_false (by omega)
        clear c7
        have H' := Ax.mk H
        clear H
        have p202 : 0 ≤ (x3_1 : Int) := of_decide_eq_true (by first | (with_reducible assumption) | assumption)
        have q202 : x3_1 < (l0.length : Int) := of_decide_eq_true (by first | (with_reducible assumption) | assumption)
        obtain ⟨ad202, A202_0, c202_0, e202, hx202_0, hl202_0, hi202_0⟩ := at_L4 HR0.out x3_1 p202 q202
        cases e202
        have HR202_0 := Ax.mk hi202_0
        have HC202_0 := Ax.mk hl202_0
        clear hi202_0 hl202_0
        replace p202 := eq_true p202
        replace q202 := eq_true q202
        go_wp2_with (first | ((with_reducible refine gate_callee (f := 32) rfl ?_); refine goesL_ (some 18) rfl rfl Tryd.func32 (by kernel_rfl) rfl #[.slice A202_0 (rd_L4 l0 x3_1).length c202_0] rfl (by (try simp only [List.map_toArray, List.map_cons, List.map_nil]); first | done | rfl | (simp only [List.length_drop, List.length_take]; rfl) | (rw [wrap_sum2 (by assumption)]; rfl)) ?_; (with_reducible refine (l13_shortSteps.calls k1 _ _ (rd_L4 l0 x3_1) true _ ?side1 ?side2 A5.out).mono ?_); (case side1 => repeat (first | exact HR202_0.out | (with_reducible refine Kd.C_alloc ?_ _) | (with_reducible refine Kd.C_drewN ?_ _) | (with_reducible refine Kd.C_drew ?_))); (case side2 => exact HC202_0.out); rintro e w' ⟨rfl, ⟨nd, rfl⟩⟩; refine ⟨_, rfl, ?_⟩; have p204 : 0 ≤ (x3_1 : Int) := of_decide_eq_true (by first | (with_reducible assumption) | assumption); have q204 : x3_1 < (l0.length : Int) := of_decide_eq_true (by first | (with_reducible assumption) | assumption); obtain ⟨ad204, A204_0, c204_0, e204, hx204_0, hl204_0, hi204_0⟩ := at_L4 HR0.out x3_1 p204 q204; obtain rfl : ad202 = ad204 := (by injection e204); have HR204_0 := Ax.mk hi204_0; have HC204_0 := Ax.mk hl204_0; clear hi204_0 hl204_0; replace p204 := eq_true p204; replace q204 := eq_true q204; have ea_ := Option.some.inj (hx202_0.symm.trans hx204_0); injection ea_ with ea_ en_ ec_; subst ea_; subst ec_; clear en_))
        go_roundg k1
        case measure => have := HK1.out; omega
        case rel => exact ⟨(wrap64 (x3_1 + 1)), (by first | rfl | (simp; done) | (simp [*]; done)), H', ⟨by have := HK1.out; omega⟩, by repeat (first | exact Drawn0.refl _ | apply Drawn0.step)⟩
      ·replace c6 := Bool.eq_false_iff.mpr c6
       subst c6
       have H1 : (some false) = some r := by rw [if_neg (show ¬ (false = true) by decide)] at H; exact H
       clear H
       have H := H1
       clear H1
       obtain rfl := Option.some.inj H
       have p202 : 0 ≤ (x3_1 : Int) := of_decide_eq_true (by first | (with_reducible assumption) | assumption)
       have q202 : x3_1 < (l0.length : Int) := of_decide_eq_true (by first | (with_reducible assumption) | assumption)
       obtain ⟨ad202, A202_0, c202_0, e202, hx202_0, hl202_0, hi202_0⟩ := at_L4 HR0.out x3_1 p202 q202
       cases e202
       have HR202_0 := Ax.mk hi202_0
       have HC202_0 := Ax.mk hl202_0
       clear hi202_0 hl202_0
       replace p202 := eq_true p202
       replace q202 := eq_true q202
       go_wp2_with (first | ((with_reducible refine gate_callee (f := 32) rfl ?_); refine goesL_ (some 18) rfl rfl Tryd.func32 (by kernel_rfl) rfl #[.slice A202_0 (rd_L4 l0 x3_1).length c202_0] rfl (by (try simp only [List.map_toArray, List.map_cons, List.map_nil]); first | done | rfl | (simp only [List.length_drop, List.length_take]; rfl) | (rw [wrap_sum2 (by assumption)]; rfl)) ?_; (with_reducible refine (l13_shortSteps.calls k1 _ _ (rd_L4 l0 x3_1) false _ ?side1 ?side2 A5.out).mono ?_); (case side1 => repeat (first | exact HR202_0.out | (with_reducible refine Kd.C_alloc ?_ _) | (with_reducible refine Kd.C_drewN ?_ _) | (with_reducible refine Kd.C_drew ?_))); (case side2 => exact HC202_0.out); rintro e w' ⟨rfl, ⟨nd, rfl⟩⟩; refine ⟨_, rfl, ?_⟩))
       go_ret
       exact ⟨by first | rfl | (simp; done) | (simp [*]; done), by repeat (first | exact Drawn0.refl _ | apply Drawn0.step)⟩
     ·rw [if_neg c4] at H
      exact absurd H (by simp)
    ·rw [if_neg c3] at H
     have c3b0 : decide (x3_1 < (l0.length : Int)) = false := decide_eq_false c3
     clear c3
     obtain rfl := Option.some.inj H
     go_wp2
     go_ret
     exact ⟨by first | rfl | (simp; done) | (simp [*]; done), by repeat (first | exact Drawn0.refl _ | apply Drawn0.step)⟩
end Go.Proofs.YtboommbclbjlnaaDoor.Fn
end
