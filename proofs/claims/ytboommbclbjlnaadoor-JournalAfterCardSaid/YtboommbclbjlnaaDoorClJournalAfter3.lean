-- Packed by pack.py, a program of this session, out of texts of this claim.
import Derived.Test.YtboommbclbjlnaaDoorClJournalAfter1
import Derived.Test.YtboommbclbjlnaaDoorClJournalAfter2
section
-- Written by printx.py, a program of this session over the kit's print: each Go function as a plain Lean function, and that the Go code computes it.
namespace Go.Proofs.YtboommbclbjlnaaDoor.Fn
open Go.RowKit Go.Proofs.YtboommbclbjlnaaDoorW.PrintWords Go.Proofs.YtboommbclbjlnaaDoorW.PrintLast Go.Proofs.YtboommbclbjlnaaDoorW.PrintMore Go.Proofs.YtboommbclbjlnaaDoor.Lf
attribute [local go_sem] max2_int min2_int max_two min_two max_three min_three max_four min_four   -- for this text's walks alone
set_option linter.unusedVariables false
set_option linter.unusedSimpArgs false
def l13_sameSteps.l0 : Nat → List (S24) → List (S26) → Int → Option (Bool)
 | 0, _, _, _ => none
 | k + 1, x0, x1, x5 => if x5 < (x0.length : Int) then (if 0 ≤ x5 then (if x5 < (x1.length : Int) then (if ((rd_T24 x0 x5).f0) = ((rd_T26 x1 x5).f0) then (if ((rd_T24 x0 x5).f1) = ((rd_T26 x1 x5).f1) then (if ((rd_T24 x0 x5).f2) = ((rd_T26 x1 x5).f2) then (if ((rd_T24 x0 x5).f3) = ((rd_T26 x1 x5).f3) then (if ((rd_T24 x0 x5).f4).toList = ((rd_T26 x1 x5).f4).toList then (l13_sameSteps.l0 k x0 x1 (wrap64 (x5 + 1))) else (none)) else (none)) else (none)) else (none)) else (none)) else (none)) else (none)) else (some true)
def l13_sameSteps.f (k : Nat) (l0 : List (S24)) (l1 : List (S26)) : Option (Bool) := if (l0.length : Int) = (l1.length : Int) then (l13_sameSteps.l0 k l0 l1 0) else (none)
theorem l13_sameSteps.mono_l : ∀ k, (∀ y0 y1 y2, LeO (l13_sameSteps.l0 k y0 y1 y2) (l13_sameSteps.l0 (k + 1) y0 y1 y2))
 | 0 => fun _ _ _ r h => by simp [l13_sameSteps.l0] at h
 | k + 1 => by
  have ih0 := l13_sameSteps.mono_l k
  ·intro y0 y1 y2
   unfold l13_sameSteps.l0
   repeat' first
   | (with_reducible exact ih0 _ _ _)
   | (with_reducible exact LeO.refl _)
   | (with_reducible exact LeO.none _)
   | (with_reducible refine LeO.ite ?_ ?_)
   | (with_reducible refine LeO.bind ?_ (fun _ => ?_))
   | exact ih0 _ _ _
   | exact LeO.none _
   | refine LeO.ite ?_ ?_
   | refine LeO.bind ?_ (fun _ => ?_)
theorem l13_sameSteps.mono : ∀ a0 a1 k, LeO (l13_sameSteps.f k a0 a1) (l13_sameSteps.f (k + 1) a0 a1) := by
 intro a0 a1 k
 have ih0 := l13_sameSteps.mono_l k
 unfold l13_sameSteps.f
 repeat' first
   | (with_reducible exact ih0 _ _ _)
   | (with_reducible exact LeO.refl _)
   | (with_reducible exact LeO.none _)
   | (with_reducible refine LeO.ite ?_ ?_)
   | (with_reducible refine LeO.bind ?_ (fun _ => ?_))
   | exact ih0 _ _ _
   | exact LeO.none _
   | refine LeO.ite ?_ ?_
   | refine LeO.bind ?_ (fun _ => ?_)
set_option maxHeartbeats 8000000 in
set_option maxRecDepth 100000 in
theorem l13_sameSteps.calls (k : Nat) (A0 : Option Addr) (c0 : Nat) (l0 : List (S24)) (A1 : Option Addr) (c1 : Nat) (l1 : List (S26)) (r : Bool) (w : World) (hr0 : Kd.C k24 w A0 l0.length l0) (hc0 : l0.length ≤ c0) (hr1 : Kd.C k26 w A1 l1.length l1) (hc1 : l1.length ≤ c1) (h : l13_sameSteps.f k l0 l1 = some r) :
  Calls Tryd.prog 35 #[.slice A0 l0.length c0, .slice A1 l1.length c1] w fun e w' => e = .returned (.bool r) ∧ Below w.heap.size w w' := by
 have hu24 := Tryd.underlying24
 have hu26 := Tryd.underlying26
 have HR0 := Ax.mk hr0
 have HC0 := Ax.mk hc0
 clear hr0 hc0
 have HR1 := Ax.mk hr1
 have HC1 := Ax.mk hc1
 clear hr1 hc1
 have HB := Ax.mk (Below.refl w.heap.size w)
 have H : (if (l0.length : Int) = (l1.length : Int) then (l13_sameSteps.l0 k l0 l1 0) else (none)) = some r := h
 clear h
 by_cases c3 : (l0.length : Int) = (l1.length : Int)
 ·rw [if_pos c3] at H
  have c3b0 : ((l0.length : Int) == (l1.length : Int)) = true := beq_iff_eq.mpr c3
  have c3b1 : ((l0.length : Int) != (l1.length : Int)) = false := bne_eq_false_iff_eq.mpr c3
  have c3b2 : (l0.length == l1.length) = true := by first | simpa using c3 | (simp at c3 ⊢; omega)
  clear c3
  have H' := Ax.mk H
  clear H
  go_enter Tryd.func35, Tryd.ntmps35
  go_wp2
  go_loopg [5] k (fun kq v5 w' => ∃ (x5_1 : Int), v5 = .int .i64 x5_1 ∧ Ax (l13_sameSteps.l0 kq l0 l1 x5_1 = some r) ∧ Ax (kq ≤ k) ∧ Ax (Below w.heap.size w w'))
  case atStart => exact ⟨(0), (by first | rfl | (simp; done) | (simp [*]; done)), H', ⟨Nat.le_refl _⟩, ⟨bA⟩⟩
  case round =>
   clear H'
   try clear c1
   try clear p2
   try clear c3
   try clear c3b0
   try clear c3b1
   try clear c3b2
   obtain ⟨x5_1, rfl, HA, HK1, HB⟩ := hrel
   cases gk with
   | zero => exact absurd HA.out (by simp [l13_sameSteps.l0])
   | succ k1 =>
    have H := HA.out
    clear HA
    simp only [l13_sameSteps.l0] at H
    by_cases c4 : x5_1 < (l0.length : Int)
    ·rw [if_pos c4] at H
     have c4b0 : decide (x5_1 < (l0.length : Int)) = true := decide_eq_true c4
     clear c4
     by_cases c5 : 0 ≤ x5_1
     ·rw [if_pos c5] at H
      have c5b0 : decide (0 ≤ x5_1) = true := decide_eq_true c5
      clear c5
      by_cases c6 : x5_1 < (l1.length : Int)
      ·rw [if_pos c6] at H
       have c6b0 : decide (x5_1 < (l1.length : Int)) = true := decide_eq_true c6
       clear c6
       by_cases c7 : ((rd_T24 l0 x5_1).f0) = ((rd_T26 l1 x5_1).f0)
       ·rw [if_pos c7] at H
        have c7b0 : (((rd_T24 l0 x5_1).f0) == ((rd_T26 l1 x5_1).f0)) = true := beq_iff_eq.mpr c7
        have c7b1 : (((rd_T24 l0 x5_1).f0) != ((rd_T26 l1 x5_1).f0)) = false := bne_eq_false_iff_eq.mpr c7
        clear c7
        by_cases c8 : ((rd_T24 l0 x5_1).f1) = ((rd_T26 l1 x5_1).f1)
        ·rw [if_pos c8] at H
         have c8b0 : (((rd_T24 l0 x5_1).f1) == ((rd_T26 l1 x5_1).f1)) = true := beq_iff_eq.mpr c8
         have c8b1 : (((rd_T24 l0 x5_1).f1) != ((rd_T26 l1 x5_1).f1)) = false := bne_eq_false_iff_eq.mpr c8
         clear c8
         by_cases c9 : ((rd_T24 l0 x5_1).f2) = ((rd_T26 l1 x5_1).f2)
         ·rw [if_pos c9] at H
          have c9b0 : (((rd_T24 l0 x5_1).f2) == ((rd_T26 l1 x5_1).f2)) = true := beq_iff_eq.mpr c9
          have c9b1 : (((rd_T24 l0 x5_1).f2) != ((rd_T26 l1 x5_1).f2)) = false := bne_eq_false_iff_eq.mpr c9
          clear c9
          by_cases c10 : ((rd_T24 l0 x5_1).f3) = ((rd_T26 l1 x5_1).f3)
          ·rw [if_pos c10] at H
           have c10b0 : (((rd_T24 l0 x5_1).f3) == ((rd_T26 l1 x5_1).f3)) = true := beq_iff_eq.mpr c10
           have c10b1 : (((rd_T24 l0 x5_1).f3) != ((rd_T26 l1 x5_1).f3)) = false := bne_eq_false_iff_eq.mpr c10
           clear c10
           by_cases c11 : ((rd_T24 l0 x5_1).f4).toList = ((rd_T26 l1 x5_1).f4).toList
           ·rw [if_pos c11] at H
            have c11b0 : (((rd_T24 l0 x5_1).f4).toList == ((rd_T26 l1 x5_1).f4).toList) = true := beq_iff_eq.mpr c11
            have c11b1 : (((rd_T24 l0 x5_1).f4).toList != ((rd_T26 l1 x5_1).f4).toList) = false := bne_eq_false_iff_eq.mpr c11
            clear c11
            have H' := Ax.mk H
            clear H
            have p205 : 0 ≤ (x5_1 : Int) := of_decide_eq_true (by first | (with_reducible assumption) | assumption)
            have q205 : x5_1 < (l0.length : Int) := of_decide_eq_true (by first | (with_reducible assumption) | assumption)
            obtain ⟨ad205, e205, hx205_0, hx205_1, hx205_2, hx205_3, hx205_4⟩ := at_T24 HR0.out x5_1 p205 q205
            cases e205
            replace hx205_0 := (HB.out.cell (World.block_lt_of_cell? w _ hx205_0)).trans hx205_0
            replace hx205_1 := (HB.out.cell (World.block_lt_of_cell? w _ hx205_1)).trans hx205_1
            replace hx205_2 := (HB.out.cell (World.block_lt_of_cell? w _ hx205_2)).trans hx205_2
            replace hx205_3 := (HB.out.cell (World.block_lt_of_cell? w _ hx205_3)).trans hx205_3
            replace hx205_4 := (HB.out.cell (World.block_lt_of_cell? w _ hx205_4)).trans hx205_4
            replace p205 := eq_true p205
            replace q205 := eq_true q205
            go_wp2_with (first | ((with_reducible refine gate_dst (N := 6) rfl ?_); refine box_event ?hg (N := 6) ?hd (cs := #[.int .i64 0, .int .i64 0, .int .i64 0, .int .u64 0, .string (⟨#[]⟩ : ByteArray)]) (t := 24) ?hr ?_; (case hd => rfl); (case hg => rfl); (case hr => first | (go_simp; done) | (go_simp; rfl)); intro gb206 hg w12 hbox hb; have n0_ := Ax.mk (bP bA hb); have n1_ := Ax.mk (hbox); have n2_ := Ax.mk ((ge_new hg : w.heap.size ≤ gb206)); have n3_ := n2_; clear HB; have HB := n0_; have BK206 := n1_; have GW206 := n2_; have GE206 := n3_; clear n0_ n1_ n2_ n3_; clear hb hbox hg; have hcz13_0 : w12.cell? ⟨gb206, 0, none⟩ = some (.int .i64 0) := (bC BK206.out 0).trans rfl; have hcz13_1 : w12.cell? ⟨gb206, 1, none⟩ = some (.int .i64 0) := (bC BK206.out 1).trans rfl; have hcz13_2 : w12.cell? ⟨gb206, 2, none⟩ = some (.int .i64 0) := (bC BK206.out 2).trans rfl; have hcz13_3 : w12.cell? ⟨gb206, 3, none⟩ = some (.int .u64 0) := (bC BK206.out 3).trans rfl; have hcz13_4 : w12.cell? ⟨gb206, 4, none⟩ = some (.string (⟨#[]⟩ : ByteArray)) := (bC BK206.out 4).trans rfl; have hfz13_0 := bF BK206.out 0; have hfz13_1 := bF BK206.out 1; have hfz13_2 := bF BK206.out 2; have hfz13_3 := bF BK206.out 3; have hfz13_4 := bF BK206.out 4; have p207 : 0 ≤ (x5_1 : Int) := of_decide_eq_true (by first | (with_reducible assumption) | assumption); have q207 : x5_1 < (l1.length : Int) := of_decide_eq_true (by first | (with_reducible assumption) | assumption); obtain ⟨ad207, e207, hx207_0, hx207_1, hx207_2, hx207_3, hx207_4⟩ := at_T26 HR1.out x5_1 p207 q207; cases e207; have hn207_0 : ad207.block ≠ gb206 := Nat.ne_of_lt (Nat.lt_of_lt_of_le (by have := World.block_lt_of_cell? _ _ hx207_0; first | rwa [add_block] at this | exact this) GW206.out); have hn207_1 : ad207.block ≠ gb206 := Nat.ne_of_lt (Nat.lt_of_lt_of_le (by have := World.block_lt_of_cell? _ _ hx207_0; first | rwa [add_block] at this | exact this) GW206.out); have hn207_2 : ad207.block ≠ gb206 := Nat.ne_of_lt (Nat.lt_of_lt_of_le (by have := World.block_lt_of_cell? _ _ hx207_0; first | rwa [add_block] at this | exact this) GW206.out); have hn207_3 : ad207.block ≠ gb206 := Nat.ne_of_lt (Nat.lt_of_lt_of_le (by have := World.block_lt_of_cell? _ _ hx207_0; first | rwa [add_block] at this | exact this) GW206.out); have hn207_4 : ad207.block ≠ gb206 := Nat.ne_of_lt (Nat.lt_of_lt_of_le (by have := World.block_lt_of_cell? _ _ hx207_0; first | rwa [add_block] at this | exact this) GW206.out); replace hx207_0 := (HB.out.cell (World.block_lt_of_cell? w _ hx207_0)).trans hx207_0; replace hx207_1 := (HB.out.cell (World.block_lt_of_cell? w _ hx207_1)).trans hx207_1; replace hx207_2 := (HB.out.cell (World.block_lt_of_cell? w _ hx207_2)).trans hx207_2; replace hx207_3 := (HB.out.cell (World.block_lt_of_cell? w _ hx207_3)).trans hx207_3; replace hx207_4 := (HB.out.cell (World.block_lt_of_cell? w _ hx207_4)).trans hx207_4; replace hx207_0 := (cell_far (p := ⟨gb206, 0, none⟩) (by first | (rw [add_block]; exact hn207_0) | (show (Addr.add _ _).block ≠ _; rw [add_block]; exact hn207_0) | exact hn207_0) (.int .i64 ((rd_T24 l0 x5_1).f0))).trans hx207_0; replace hx207_1 := (cell_far (p := ⟨gb206, 0, none⟩) (by first | (rw [add_block]; exact hn207_0) | (show (Addr.add _ _).block ≠ _; rw [add_block]; exact hn207_0) | exact hn207_0) (.int .i64 ((rd_T24 l0 x5_1).f0))).trans hx207_1; replace hx207_2 := (cell_far (p := ⟨gb206, 0, none⟩) (by first | (rw [add_block]; exact hn207_0) | (show (Addr.add _ _).block ≠ _; rw [add_block]; exact hn207_0) | exact hn207_0) (.int .i64 ((rd_T24 l0 x5_1).f0))).trans hx207_2; replace hx207_3 := (cell_far (p := ⟨gb206, 0, none⟩) (by first | (rw [add_block]; exact hn207_0) | (show (Addr.add _ _).block ≠ _; rw [add_block]; exact hn207_0) | exact hn207_0) (.int .i64 ((rd_T24 l0 x5_1).f0))).trans hx207_3; replace hx207_4 := (cell_far (p := ⟨gb206, 0, none⟩) (by first | (rw [add_block]; exact hn207_0) | (show (Addr.add _ _).block ≠ _; rw [add_block]; exact hn207_0) | exact hn207_0) (.int .i64 ((rd_T24 l0 x5_1).f0))).trans hx207_4; replace hx207_0 := (cell_far (p := ⟨gb206, 1, none⟩) (by first | (rw [add_block]; exact hn207_1) | (show (Addr.add _ _).block ≠ _; rw [add_block]; exact hn207_1) | exact hn207_1) (.int .i64 ((rd_T24 l0 x5_1).f1))).trans hx207_0; replace hx207_1 := (cell_far (p := ⟨gb206, 1, none⟩) (by first | (rw [add_block]; exact hn207_1) | (show (Addr.add _ _).block ≠ _; rw [add_block]; exact hn207_1) | exact hn207_1) (.int .i64 ((rd_T24 l0 x5_1).f1))).trans hx207_1; replace hx207_2 := (cell_far (p := ⟨gb206, 1, none⟩) (by first | (rw [add_block]; exact hn207_1) | (show (Addr.add _ _).block ≠ _; rw [add_block]; exact hn207_1) | exact hn207_1) (.int .i64 ((rd_T24 l0 x5_1).f1))).trans hx207_2; replace hx207_3 := (cell_far (p := ⟨gb206, 1, none⟩) (by first | (rw [add_block]; exact hn207_1) | (show (Addr.add _ _).block ≠ _; rw [add_block]; exact hn207_1) | exact hn207_1) (.int .i64 ((rd_T24 l0 x5_1).f1))).trans hx207_3; replace hx207_4 := (cell_far (p := ⟨gb206, 1, none⟩) (by first | (rw [add_block]; exact hn207_1) | (show (Addr.add _ _).block ≠ _; rw [add_block]; exact hn207_1) | exact hn207_1) (.int .i64 ((rd_T24 l0 x5_1).f1))).trans hx207_4; replace hx207_0 := (cell_far (p := ⟨gb206, 2, none⟩) (by first | (rw [add_block]; exact hn207_2) | (show (Addr.add _ _).block ≠ _; rw [add_block]; exact hn207_2) | exact hn207_2) (.int .i64 ((rd_T24 l0 x5_1).f2))).trans hx207_0; replace hx207_1 := (cell_far (p := ⟨gb206, 2, none⟩) (by first | (rw [add_block]; exact hn207_2) | (show (Addr.add _ _).block ≠ _; rw [add_block]; exact hn207_2) | exact hn207_2) (.int .i64 ((rd_T24 l0 x5_1).f2))).trans hx207_1; replace hx207_2 := (cell_far (p := ⟨gb206, 2, none⟩) (by first | (rw [add_block]; exact hn207_2) | (show (Addr.add _ _).block ≠ _; rw [add_block]; exact hn207_2) | exact hn207_2) (.int .i64 ((rd_T24 l0 x5_1).f2))).trans hx207_2; replace hx207_3 := (cell_far (p := ⟨gb206, 2, none⟩) (by first | (rw [add_block]; exact hn207_2) | (show (Addr.add _ _).block ≠ _; rw [add_block]; exact hn207_2) | exact hn207_2) (.int .i64 ((rd_T24 l0 x5_1).f2))).trans hx207_3; replace hx207_4 := (cell_far (p := ⟨gb206, 2, none⟩) (by first | (rw [add_block]; exact hn207_2) | (show (Addr.add _ _).block ≠ _; rw [add_block]; exact hn207_2) | exact hn207_2) (.int .i64 ((rd_T24 l0 x5_1).f2))).trans hx207_4; replace hx207_0 := (cell_far (p := ⟨gb206, 3, none⟩) (by first | (rw [add_block]; exact hn207_3) | (show (Addr.add _ _).block ≠ _; rw [add_block]; exact hn207_3) | exact hn207_3) (.int .u64 ((rd_T24 l0 x5_1).f3))).trans hx207_0; replace hx207_1 := (cell_far (p := ⟨gb206, 3, none⟩) (by first | (rw [add_block]; exact hn207_3) | (show (Addr.add _ _).block ≠ _; rw [add_block]; exact hn207_3) | exact hn207_3) (.int .u64 ((rd_T24 l0 x5_1).f3))).trans hx207_1; replace hx207_2 := (cell_far (p := ⟨gb206, 3, none⟩) (by first | (rw [add_block]; exact hn207_3) | (show (Addr.add _ _).block ≠ _; rw [add_block]; exact hn207_3) | exact hn207_3) (.int .u64 ((rd_T24 l0 x5_1).f3))).trans hx207_2; replace hx207_3 := (cell_far (p := ⟨gb206, 3, none⟩) (by first | (rw [add_block]; exact hn207_3) | (show (Addr.add _ _).block ≠ _; rw [add_block]; exact hn207_3) | exact hn207_3) (.int .u64 ((rd_T24 l0 x5_1).f3))).trans hx207_3; replace hx207_4 := (cell_far (p := ⟨gb206, 3, none⟩) (by first | (rw [add_block]; exact hn207_3) | (show (Addr.add _ _).block ≠ _; rw [add_block]; exact hn207_3) | exact hn207_3) (.int .u64 ((rd_T24 l0 x5_1).f3))).trans hx207_4; replace hx207_0 := (cell_far (p := ⟨gb206, 4, none⟩) (by first | (rw [add_block]; exact hn207_4) | (show (Addr.add _ _).block ≠ _; rw [add_block]; exact hn207_4) | exact hn207_4) (.string ((rd_T24 l0 x5_1).f4))).trans hx207_0; replace hx207_1 := (cell_far (p := ⟨gb206, 4, none⟩) (by first | (rw [add_block]; exact hn207_4) | (show (Addr.add _ _).block ≠ _; rw [add_block]; exact hn207_4) | exact hn207_4) (.string ((rd_T24 l0 x5_1).f4))).trans hx207_1; replace hx207_2 := (cell_far (p := ⟨gb206, 4, none⟩) (by first | (rw [add_block]; exact hn207_4) | (show (Addr.add _ _).block ≠ _; rw [add_block]; exact hn207_4) | exact hn207_4) (.string ((rd_T24 l0 x5_1).f4))).trans hx207_2; replace hx207_3 := (cell_far (p := ⟨gb206, 4, none⟩) (by first | (rw [add_block]; exact hn207_4) | (show (Addr.add _ _).block ≠ _; rw [add_block]; exact hn207_4) | exact hn207_4) (.string ((rd_T24 l0 x5_1).f4))).trans hx207_3; replace hx207_4 := (cell_far (p := ⟨gb206, 4, none⟩) (by first | (rw [add_block]; exact hn207_4) | (show (Addr.add _ _).block ≠ _; rw [add_block]; exact hn207_4) | exact hn207_4) (.string ((rd_T24 l0 x5_1).f4))).trans hx207_4; clear hn207_0; clear hn207_1; clear hn207_2; clear hn207_3; clear hn207_4; replace p207 := eq_true p207; replace q207 := eq_true q207) | ((with_reducible refine gate_dst (N := 7) rfl ?_); refine box_event ?hg (N := 7) ?hd (cs := #[.int .i64 0, .int .i64 0, .int .i64 0, .int .u64 0, .string (⟨#[]⟩ : ByteArray)]) (t := 26) ?hr ?_; (case hd => rfl); (case hg => rfl); (case hr => first | (go_simp; done) | (go_simp; rfl)); intro gb208 hg w14 hbox hb; have n0_ := Ax.mk (bB (g := gb206) (o := .cells #[.int .i64 ((rd_T24 l0 x5_1).f0), .int .i64 ((rd_T24 l0 x5_1).f1), .int .i64 ((rd_T24 l0 x5_1).f2), .int .u64 ((rd_T24 l0 x5_1).f3), .string ((rd_T24 l0 x5_1).f4)] 24 (0, 0)) (by refine bT ?_; refine bU (cs := #[.int .i64 ((rd_T24 l0 x5_1).f0), .int .i64 ((rd_T24 l0 x5_1).f1), .int .i64 ((rd_T24 l0 x5_1).f2), .int .u64 ((rd_T24 l0 x5_1).f3), .string (⟨#[]⟩ : ByteArray)]) ?_ 4 _ rfl; refine bT ?_; refine bU (cs := #[.int .i64 ((rd_T24 l0 x5_1).f0), .int .i64 ((rd_T24 l0 x5_1).f1), .int .i64 ((rd_T24 l0 x5_1).f2), .int .u64 0, .string (⟨#[]⟩ : ByteArray)]) ?_ 3 _ rfl; refine bT ?_; refine bU (cs := #[.int .i64 ((rd_T24 l0 x5_1).f0), .int .i64 ((rd_T24 l0 x5_1).f1), .int .i64 0, .int .u64 0, .string (⟨#[]⟩ : ByteArray)]) ?_ 2 _ rfl; refine bT ?_; refine bU (cs := #[.int .i64 ((rd_T24 l0 x5_1).f0), .int .i64 0, .int .i64 0, .int .u64 0, .string (⟨#[]⟩ : ByteArray)]) ?_ 1 _ rfl; refine bT ?_; refine bU (cs := #[.int .i64 0, .int .i64 0, .int .i64 0, .int .u64 0, .string (⟨#[]⟩ : ByteArray)]) ?_ 0 _ rfl; exact bT BK206.out) hb); have n1_ := Ax.mk (bP bA hb); have n2_ := Ax.mk (hbox); have n3_ := Ax.mk ((ge_new hg : w.heap.size ≤ gb208)); have n4_ := n3_; have n5_ := Ax.mk ((by rw [hg]; exact Nat.ne_of_lt (bL (g := gb206) (o := .cells #[.int .i64 ((rd_T24 l0 x5_1).f0), .int .i64 ((rd_T24 l0 x5_1).f1), .int .i64 ((rd_T24 l0 x5_1).f2), .int .u64 ((rd_T24 l0 x5_1).f3), .string ((rd_T24 l0 x5_1).f4)] 24 (0, 0)) (by refine bT ?_; refine bU (cs := #[.int .i64 ((rd_T24 l0 x5_1).f0), .int .i64 ((rd_T24 l0 x5_1).f1), .int .i64 ((rd_T24 l0 x5_1).f2), .int .u64 ((rd_T24 l0 x5_1).f3), .string (⟨#[]⟩ : ByteArray)]) ?_ 4 _ rfl; refine bT ?_; refine bU (cs := #[.int .i64 ((rd_T24 l0 x5_1).f0), .int .i64 ((rd_T24 l0 x5_1).f1), .int .i64 ((rd_T24 l0 x5_1).f2), .int .u64 0, .string (⟨#[]⟩ : ByteArray)]) ?_ 3 _ rfl; refine bT ?_; refine bU (cs := #[.int .i64 ((rd_T24 l0 x5_1).f0), .int .i64 ((rd_T24 l0 x5_1).f1), .int .i64 0, .int .u64 0, .string (⟨#[]⟩ : ByteArray)]) ?_ 2 _ rfl; refine bT ?_; refine bU (cs := #[.int .i64 ((rd_T24 l0 x5_1).f0), .int .i64 0, .int .i64 0, .int .u64 0, .string (⟨#[]⟩ : ByteArray)]) ?_ 1 _ rfl; refine bT ?_; refine bU (cs := #[.int .i64 0, .int .i64 0, .int .i64 0, .int .u64 0, .string (⟨#[]⟩ : ByteArray)]) ?_ 0 _ rfl; exact bT BK206.out)) : gb206 ≠ gb208)); have n6_ := Ax.mk ((by rw [hg]; exact Nat.ne_of_gt (bL (g := gb206) (o := .cells #[.int .i64 ((rd_T24 l0 x5_1).f0), .int .i64 ((rd_T24 l0 x5_1).f1), .int .i64 ((rd_T24 l0 x5_1).f2), .int .u64 ((rd_T24 l0 x5_1).f3), .string ((rd_T24 l0 x5_1).f4)] 24 (0, 0)) (by refine bT ?_; refine bU (cs := #[.int .i64 ((rd_T24 l0 x5_1).f0), .int .i64 ((rd_T24 l0 x5_1).f1), .int .i64 ((rd_T24 l0 x5_1).f2), .int .u64 ((rd_T24 l0 x5_1).f3), .string (⟨#[]⟩ : ByteArray)]) ?_ 4 _ rfl; refine bT ?_; refine bU (cs := #[.int .i64 ((rd_T24 l0 x5_1).f0), .int .i64 ((rd_T24 l0 x5_1).f1), .int .i64 ((rd_T24 l0 x5_1).f2), .int .u64 0, .string (⟨#[]⟩ : ByteArray)]) ?_ 3 _ rfl; refine bT ?_; refine bU (cs := #[.int .i64 ((rd_T24 l0 x5_1).f0), .int .i64 ((rd_T24 l0 x5_1).f1), .int .i64 0, .int .u64 0, .string (⟨#[]⟩ : ByteArray)]) ?_ 2 _ rfl; refine bT ?_; refine bU (cs := #[.int .i64 ((rd_T24 l0 x5_1).f0), .int .i64 0, .int .i64 0, .int .u64 0, .string (⟨#[]⟩ : ByteArray)]) ?_ 1 _ rfl; refine bT ?_; refine bU (cs := #[.int .i64 0, .int .i64 0, .int .i64 0, .int .u64 0, .string (⟨#[]⟩ : ByteArray)]) ?_ 0 _ rfl; exact bT BK206.out)) : gb208 ≠ gb206)); clear BK206; clear HB; have BK206 := n0_; have HB := n1_; have BK208 := n2_; have GW208 := n3_; have GE208 := n4_; have NB206_208 := n5_; have NB208_206 := n6_; clear n0_ n1_ n2_ n3_ n4_ n5_ n6_; clear hb hbox hg; have hnb15 := NB208_206.out; have hnc15 := NB206_208.out; have hcz16_0 : w14.cell? ⟨gb208, 0, none⟩ = some (.int .i64 0) := (bC BK208.out 0).trans rfl; have hcz16_1 : w14.cell? ⟨gb208, 1, none⟩ = some (.int .i64 0) := (bC BK208.out 1).trans rfl; have hcz16_2 : w14.cell? ⟨gb208, 2, none⟩ = some (.int .i64 0) := (bC BK208.out 2).trans rfl; have hcz16_3 : w14.cell? ⟨gb208, 3, none⟩ = some (.int .u64 0) := (bC BK208.out 3).trans rfl; have hcz16_4 : w14.cell? ⟨gb208, 4, none⟩ = some (.string (⟨#[]⟩ : ByteArray)) := (bC BK208.out 4).trans rfl; have hfz16_0 := bF BK208.out 0; have hfz16_1 := bF BK208.out 1; have hfz16_2 := bF BK208.out 2; have hfz16_3 := bF BK208.out 3; have hfz16_4 := bF BK208.out 4; have hcz17_0 : w14.cell? ⟨gb206, 0, none⟩ = some (.int .i64 ((rd_T24 l0 x5_1).f0)) := (bC BK206.out 0).trans rfl; have hcz17_1 : w14.cell? ⟨gb206, 1, none⟩ = some (.int .i64 ((rd_T24 l0 x5_1).f1)) := (bC BK206.out 1).trans rfl; have hcz17_2 : w14.cell? ⟨gb206, 2, none⟩ = some (.int .i64 ((rd_T24 l0 x5_1).f2)) := (bC BK206.out 2).trans rfl; have hcz17_3 : w14.cell? ⟨gb206, 3, none⟩ = some (.int .u64 ((rd_T24 l0 x5_1).f3)) := (bC BK206.out 3).trans rfl; have hcz17_4 : w14.cell? ⟨gb206, 4, none⟩ = some (.string ((rd_T24 l0 x5_1).f4)) := (bC BK206.out 4).trans rfl; have hfz17_0 := bF BK206.out 0; have hfz17_1 := bF BK206.out 1; have hfz17_2 := bF BK206.out 2; have hfz17_3 := bF BK206.out 3; have hfz17_4 := bF BK206.out 4))
            go_roundg k1
            case measure => have := HK1.out; omega
            case rel => exact ⟨(wrap64 (x5_1 + 1)), (by first | rfl | (simp; done) | (simp [*]; done)), H', ⟨by have := HK1.out; omega⟩, ⟨bA⟩⟩
           ·rw [if_neg c11] at H
            exact absurd H (by simp)
          ·rw [if_neg c10] at H
           exact absurd H (by simp)
         ·rw [if_neg c9] at H
          exact absurd H (by simp)
        ·rw [if_neg c8] at H
         exact absurd H (by simp)
       ·rw [if_neg c7] at H
        exact absurd H (by simp)
      ·rw [if_neg c6] at H
       exact absurd H (by simp)
     ·rw [if_neg c5] at H
      exact absurd H (by simp)
    ·rw [if_neg c4] at H
     have c4b0 : decide (x5_1 < (l0.length : Int)) = false := decide_eq_false c4
     clear c4
     obtain rfl := Option.some.inj H
     go_wp2
     go_ret
     exact ⟨by first | rfl | (simp [errW_none, errW_some] <;> rfl) | (simp [*, errW_none, errW_some] <;> rfl), bA⟩
 ·rw [if_neg c3] at H
  exact absurd H (by simp)
end Go.Proofs.YtboommbclbjlnaaDoor.Fn
end
section
namespace Go.Proofs.YtboommbclbjlnaaDoor.Fn
open Go.RowKit Go.Proofs.YtboommbclbjlnaaDoorW.PrintWords Go.Proofs.YtboommbclbjlnaaDoorW.PrintLast Go.Proofs.YtboommbclbjlnaaDoorW.PrintMore Go.Proofs.YtboommbclbjlnaaDoor.Lf
open List (setIfInBounds_toArray set_cons_zero set_cons_succ)
attribute [local go_sem] max2_int min2_int max_two min_two max_three min_three max_four min_four   -- for this text's walks alone
set_option linter.unusedVariables false
set_option linter.unusedSimpArgs false
mutual
def l13_same.j0 : Nat → Bool → Int → List (S44) → ByteArray → Int → List (S46) → ByteArray → Option (Bool)
 | 0, _, _, _, _, _, _, _ => none
 | k + 1, x26, x265000, x265001, x265002, x266000, x266001, x266002 => if x26 = true then (none) else (l13_same.l0 k 0 x265000 x265001 x265002 x266000 x266001 x266002)
def l13_same.l0 : Nat → Int → Int → List (S44) → ByteArray → Int → List (S46) → ByteArray → Option (Bool)
 | 0, _, _, _, _, _, _, _ => none
 | k + 1, x5, x265000, x265001, x265002, x266000, x266001, x266002 => if x5 < (x265001.length : Int) then (if 0 ≤ x5 then (if x5 < (x266001.length : Int) then (if ((rd_T44 x265001 x5).f0) = ((rd_T46 x266001 x5).f0) then ((l13_sameSteps.f k ((rd_T44 x265001 x5).f1) ((rd_T46 x266001 x5).f1)).bind fun t270 => (if t270 = true then (l13_same.l0 k (wrap64 (x5 + 1)) x265000 x265001 x265002 x266000 x266001 x266002) else (none))) else (none)) else (none)) else (none)) else (some true)
end
def l13_same.f (k : Nat) (a0_0 : Int) (l0_1 : List (S44)) (a0_2 : ByteArray) (a1_0 : Int) (l1_1 : List (S46)) (a1_2 : ByteArray) : Option (Bool) := if a0_0 = a1_0 then (if a0_2.toList = a1_2.toList then (l13_same.j0 k ((l0_1.length : Int) != (l1_1.length : Int)) a0_0 l0_1 a0_2 a1_0 l1_1 a1_2) else (l13_same.j0 k true a0_0 l0_1 a0_2 a1_0 l1_1 a1_2)) else (l13_same.j0 k true a0_0 l0_1 a0_2 a1_0 l1_1 a1_2)
theorem l13_same.mono_l : ∀ k, (∀ y0 y1 y2 y3 y4 y5 y6, LeO (l13_same.j0 k y0 y1 y2 y3 y4 y5 y6) (l13_same.j0 (k + 1) y0 y1 y2 y3 y4 y5 y6)) ∧ (∀ y0 y1 y2 y3 y4 y5 y6, LeO (l13_same.l0 k y0 y1 y2 y3 y4 y5 y6) (l13_same.l0 (k + 1) y0 y1 y2 y3 y4 y5 y6))
 | 0 => ⟨fun _ _ _ _ _ _ _ r h => by simp [l13_same.j0] at h, fun _ _ _ _ _ _ _ r h => by simp [l13_same.l0] at h⟩
 | k + 1 => by
  obtain ⟨ih0, ih1⟩ := l13_same.mono_l k
  refine ⟨?_, ?_⟩
  ·intro y0 y1 y2 y3 y4 y5 y6
   unfold l13_same.j0
   repeat' first
   | (with_reducible exact ih0 _ _ _ _ _ _ _)
   | (with_reducible exact ih1 _ _ _ _ _ _ _)
   | (with_reducible exact l13_sameSteps.mono _ _ _)
   | (with_reducible exact LeO.refl _)
   | (with_reducible exact LeO.none _)
   | (with_reducible refine LeO.ite ?_ ?_)
   | (with_reducible refine LeO.bind ?_ (fun _ => ?_))
   | exact ih0 _ _ _ _ _ _ _
   | exact ih1 _ _ _ _ _ _ _
   | exact l13_sameSteps.mono _ _ _
   | exact LeO.none _
   | refine LeO.ite ?_ ?_
   | refine LeO.bind ?_ (fun _ => ?_)
  ·intro y0 y1 y2 y3 y4 y5 y6
   unfold l13_same.l0
   repeat' first
   | (with_reducible exact ih0 _ _ _ _ _ _ _)
   | (with_reducible exact ih1 _ _ _ _ _ _ _)
   | (with_reducible exact l13_sameSteps.mono _ _ _)
   | (with_reducible exact LeO.refl _)
   | (with_reducible exact LeO.none _)
   | (with_reducible refine LeO.ite ?_ ?_)
   | (with_reducible refine LeO.bind ?_ (fun _ => ?_))
   | exact ih0 _ _ _ _ _ _ _
   | exact ih1 _ _ _ _ _ _ _
   | exact l13_sameSteps.mono _ _ _
   | exact LeO.none _
   | refine LeO.ite ?_ ?_
   | refine LeO.bind ?_ (fun _ => ?_)
theorem l13_same.mono : ∀ a0 a1 a2 a3 a4 a5 k, LeO (l13_same.f k a0 a1 a2 a3 a4 a5) (l13_same.f (k + 1) a0 a1 a2 a3 a4 a5) := by
 intro a0 a1 a2 a3 a4 a5 k
 obtain ⟨ih0, ih1⟩ := l13_same.mono_l k
 unfold l13_same.f
 repeat' first
   | (with_reducible exact ih0 _ _ _ _ _ _ _)
   | (with_reducible exact ih1 _ _ _ _ _ _ _)
   | (with_reducible exact l13_sameSteps.mono _ _ _)
   | (with_reducible exact LeO.refl _)
   | (with_reducible exact LeO.none _)
   | (with_reducible refine LeO.ite ?_ ?_)
   | (with_reducible refine LeO.bind ?_ (fun _ => ?_))
   | exact ih0 _ _ _ _ _ _ _
   | exact ih1 _ _ _ _ _ _ _
   | exact l13_sameSteps.mono _ _ _
   | exact LeO.none _
   | refine LeO.ite ?_ ?_
   | refine LeO.bind ?_ (fun _ => ?_)
def l13_same.T6 : Bool × List (List Nat × List Nat) := (true, [([], []), ([0], [0]), ([], []), ([1, 2], [1, 2]), ([3], [3]), ([4], [4]), ([], []), ([6], [6]), ([], []), ([7, 8], [7, 8]), ([9], [9]), ([10], [10]), ([5, 11], [5, 11]), ([12], [12]), ([13], [13]), ([14, 13], [13, 14]), ([13], [13]), ([15, 16, 13], [13, 15, 16]), ([17, 13], [13, 17]), ([18, 13], [13, 18]), ([13], [13]), ([20, 13], [13, 20]), ([13], [13]), ([21, 22, 13], [13, 21, 22]), ([23, 13], [13, 23]), ([24, 13], [13, 24]), ([19, 25, 13, 13], [13, 19, 25]), ([26, 13], [13, 26]), ([13, 27], [13, 27])])
def l13_same.B6 : List Nat := [0, 1, 0, 7, 15, 31, 0, 64, 0, 448, 960, 1984, 4095, 8191, 16383, 32767, 16383, 131071, 262143, 524287, 16383, 1064959, 16383, 7356415, 15745023, 32522239, 67108863, 134217727, 268435455]
theorem l13_same.tab6 : rtab .any (opsOf Tryd.f41 6) = l13_same.T6 := by kernel_rfl
theorem l13_same.bits6 : waitsOk l13_same.T6.2 l13_same.B6 = true := by kernel_rfl
set_option maxHeartbeats 8000000 in
set_option maxRecDepth 100000 in
theorem l13_same.calls (k : Nat) (a0_0 : Int) (A0_1 : Option Addr) (c0_1 : Nat) (l0_1 : List (S44)) (a0_2 : ByteArray) (a1_0 : Int) (A1_1 : Option Addr) (c1_1 : Nat) (l1_1 : List (S46)) (a1_2 : ByteArray) (r : Bool) (w : World) (hr0_1 : Kd.C k44 w A0_1 l0_1.length l0_1) (hc0_1 : l0_1.length ≤ c0_1) (hr1_1 : Kd.C k46 w A1_1 l1_1.length l1_1) (hc1_1 : l1_1.length ≤ c1_1) (h : l13_same.f k a0_0 l0_1 a0_2 a1_0 l1_1 a1_2 = some r) :
  Calls Tryd.prog 41 #[.agg #[.int .u64 a0_0, .slice A0_1 l0_1.length c0_1, .string a0_2], .agg #[.int .u64 a1_0, .slice A1_1 l1_1.length c1_1, .string a1_2]] w fun e w' => e = .returned (.bool r) ∧ Below w.heap.size w w' := by
 have hu66 := Tryd.underlying66
 have hu68 := Tryd.underlying68
 have HR0_1 := Ax.mk hr0_1
 have HC0_1 := Ax.mk hc0_1
 clear hr0_1 hc0_1
 have HR1_1 := Ax.mk hr1_1
 have HC1_1 := Ax.mk hc1_1
 clear hr1_1 hc1_1
 have HB := Ax.mk (Below.refl w.heap.size w)
 have H : (if a0_0 = a1_0 then (if a0_2.toList = a1_2.toList then (l13_same.j0 k ((l0_1.length : Int) != (l1_1.length : Int)) a0_0 l0_1 a0_2 a1_0 l1_1 a1_2) else (l13_same.j0 k true a0_0 l0_1 a0_2 a1_0 l1_1 a1_2)) else (l13_same.j0 k true a0_0 l0_1 a0_2 a1_0 l1_1 a1_2)) = some r := h
 clear h
 have HC3 := Ax.mk H
 clear H
 go_enter Tryd.func41, Tryd.ntmps41
 go_upto_region 1 with (first | ((with_reducible refine gate_dst (N := 2) rfl ?_); (try (refine gate_guard (by rfl) ?_; dsimp only)); refine box_event ?hg (N := 2) ?hd (cs := #[.int .u64 a0_0, .slice A0_1 l0_1.length c0_1, .string a0_2]) (t := 66) ?hr ?_; (case hd => rfl); (case hg => rfl); (case hr => first | (go_simp; done) | (go_simp; rfl)); intro gb264 hg w4 hbox hb; have n0_ := Ax.mk (bP bA hb); have n1_ := Ax.mk (hbox); have n2_ := Ax.mk ((ge_new hg : w.heap.size ≤ gb264)); have n3_ := n2_; clear HB; have HB := n0_; have BK264 := n1_; have GW264 := n2_; have GE264 := n3_; clear n0_ n1_ n2_ n3_; clear hb hbox hg) | ((with_reducible refine gate_dst (N := 3) rfl ?_); (try (refine gate_guard (by rfl) ?_; dsimp only)); refine box_event ?hg (N := 3) ?hd (cs := #[.int .u64 a1_0, .slice A1_1 l1_1.length c1_1, .string a1_2]) (t := 68) ?hr ?_; (case hd => rfl); (case hg => rfl); (case hr => first | (go_simp; done) | (go_simp; rfl)); intro gb265 hg w5 hbox hb; have n0_ := Ax.mk (bB (bT BK264.out) hb); have n1_ := Ax.mk (bP bA hb); have n2_ := Ax.mk (hbox); have n3_ := Ax.mk ((ge_new hg : w.heap.size ≤ gb265)); have n4_ := n3_; have n5_ := Ax.mk ((ne_lt hg BK264.out : gb264 ≠ gb265)); have n6_ := Ax.mk ((ne_gt hg BK264.out : gb265 ≠ gb264)); clear BK264; clear HB; have BK264 := n0_; have HB := n1_; have BK265 := n2_; have GW265 := n3_; have GE265 := n4_; have NB264_265 := n5_; have NB265_264 := n6_; clear n0_ n1_ n2_ n3_ n4_ n5_ n6_; clear hb hbox hg))
 (try simp only [Act.put, setIfInBounds_toArray, set_cons_zero, set_cons_succ])
 go_cut [26] (fun v26 wc => ∃ (kq : Nat) (x26_2 : Bool), v26 = .bool x26_2 ∧ Ax (l13_same.j0 kq x26_2 a0_0 l0_1 a0_2 a1_0 l1_1 a1_2 = some r) ∧ Ax (kq ≤ k) ∧ Ax (wc.heap[gb264]? = some (.cells #[.int .u64 a0_0, (.slice A0_1 l0_1.length c0_1), .string a0_2] 66 (0, 0))) ∧ Ax (wc.heap[gb265]? = some (.cells #[.int .u64 a1_0, (.slice A1_1 l1_1.length c1_1), .string a1_2] 68 (0, 0))) ∧ Ax (Below w.heap.size w wc))
 case first =>
  have H := HC3.out
  clear HC3
  by_cases c6 : a0_0 = a1_0
  ·rw [if_pos c6] at H
   have c6b0 : (a0_0 == a1_0) = true := beq_iff_eq.mpr c6
   have c6b1 : (a0_0 != a1_0) = false := bne_eq_false_iff_eq.mpr c6
   clear c6
   (first | rw [c6b0] | (simp only [i64_w, i32_w]; rw [c6b0]) | skip)
   by_cases c7 : a0_2.toList = a1_2.toList
   ·rw [if_pos c7] at H
    have c7b0 : (a0_2.toList == a1_2.toList) = true := beq_iff_eq.mpr c7
    have c7b1 : (a0_2.toList != a1_2.toList) = false := bne_eq_false_iff_eq.mpr c7
    clear c7
    have H' := Ax.mk H
    clear H
    have hnb8 := NB264_265.out
    have hnc8 := NB265_264.out
    have hcz9_0 : w5.cell? ⟨gb264, 0, none⟩ = some (.int .u64 a0_0) := (bC BK264.out 0).trans rfl
    have hcz9_1 : w5.cell? ⟨gb264, 1, none⟩ = some (.slice A0_1 l0_1.length c0_1) := (bC BK264.out 1).trans rfl
    have hcz9_2 : w5.cell? ⟨gb264, 2, none⟩ = some (.string a0_2) := (bC BK264.out 2).trans rfl
    have hfz9_0 := bF BK264.out 0
    have hfz9_1 := bF BK264.out 1
    have hfz9_2 := bF BK264.out 2
    have hcz10_0 : w5.cell? ⟨gb265, 0, none⟩ = some (.int .u64 a1_0) := (bC BK265.out 0).trans rfl
    have hcz10_1 : w5.cell? ⟨gb265, 1, none⟩ = some (.slice A1_1 l1_1.length c1_1) := (bC BK265.out 1).trans rfl
    have hcz10_2 : w5.cell? ⟨gb265, 2, none⟩ = some (.string a1_2) := (bC BK265.out 2).trans rfl
    have hfz10_0 := bF BK265.out 0
    have hfz10_1 := bF BK265.out 1
    have hfz10_2 := bF BK265.out 2
    go_wp2
    go_meet
    case rel => exact ⟨_, (((l0_1.length : Int) != (l1_1.length : Int))), (by first | rfl | (simp; done) | (simp [*]; done)), H', ⟨by first | omega | exact Nat.le_refl _⟩, ⟨by refine bT ?_; exact BK264.out⟩, ⟨by refine bT ?_; exact BK265.out⟩, ⟨bA⟩⟩
   ·rw [if_neg c7] at H
    have c7b0 : (a0_2.toList == a1_2.toList) = false := beq_eq_false_iff_ne.mpr c7
    have c7b1 : (a0_2.toList != a1_2.toList) = true := bne_iff_ne.mpr c7
    have H' := Ax.mk H
    clear H
    have hnb11 := NB264_265.out
    have hnc11 := NB265_264.out
    have hcz12_0 : w5.cell? ⟨gb264, 0, none⟩ = some (.int .u64 a0_0) := (bC BK264.out 0).trans rfl
    have hcz12_1 : w5.cell? ⟨gb264, 1, none⟩ = some (.slice A0_1 l0_1.length c0_1) := (bC BK264.out 1).trans rfl
    have hcz12_2 : w5.cell? ⟨gb264, 2, none⟩ = some (.string a0_2) := (bC BK264.out 2).trans rfl
    have hfz12_0 := bF BK264.out 0
    have hfz12_1 := bF BK264.out 1
    have hfz12_2 := bF BK264.out 2
    have hcz13_0 : w5.cell? ⟨gb265, 0, none⟩ = some (.int .u64 a1_0) := (bC BK265.out 0).trans rfl
    have hcz13_1 : w5.cell? ⟨gb265, 1, none⟩ = some (.slice A1_1 l1_1.length c1_1) := (bC BK265.out 1).trans rfl
    have hcz13_2 : w5.cell? ⟨gb265, 2, none⟩ = some (.string a1_2) := (bC BK265.out 2).trans rfl
    have hfz13_0 := bF BK265.out 0
    have hfz13_1 := bF BK265.out 1
    have hfz13_2 := bF BK265.out 2
    go_wp2
    go_meet
    case rel => exact ⟨_, (true), (by first | rfl | (simp; done) | (simp [*]; done)), H', ⟨by first | omega | exact Nat.le_refl _⟩, ⟨by refine bT ?_; exact BK264.out⟩, ⟨by refine bT ?_; exact BK265.out⟩, ⟨bA⟩⟩
  ·rw [if_neg c6] at H
   have c6b0 : (a0_0 == a1_0) = false := beq_eq_false_iff_ne.mpr c6
   have c6b1 : (a0_0 != a1_0) = true := bne_iff_ne.mpr c6
   (first | rw [c6b0] | (simp only [i64_w, i32_w]; rw [c6b0]) | skip)
   have H' := Ax.mk H
   clear H
   have hnb14 := NB264_265.out
   have hnc14 := NB265_264.out
   have hcz15_0 : w5.cell? ⟨gb264, 0, none⟩ = some (.int .u64 a0_0) := (bC BK264.out 0).trans rfl
   have hcz15_1 : w5.cell? ⟨gb264, 1, none⟩ = some (.slice A0_1 l0_1.length c0_1) := (bC BK264.out 1).trans rfl
   have hcz15_2 : w5.cell? ⟨gb264, 2, none⟩ = some (.string a0_2) := (bC BK264.out 2).trans rfl
   have hfz15_0 := bF BK264.out 0
   have hfz15_1 := bF BK264.out 1
   have hfz15_2 := bF BK264.out 2
   have hcz16_0 : w5.cell? ⟨gb265, 0, none⟩ = some (.int .u64 a1_0) := (bC BK265.out 0).trans rfl
   have hcz16_1 : w5.cell? ⟨gb265, 1, none⟩ = some (.slice A1_1 l1_1.length c1_1) := (bC BK265.out 1).trans rfl
   have hcz16_2 : w5.cell? ⟨gb265, 2, none⟩ = some (.string a1_2) := (bC BK265.out 2).trans rfl
   have hfz16_0 := bF BK265.out 0
   have hfz16_1 := bF BK265.out 1
   have hfz16_2 := bF BK265.out 2
   go_wp2
   go_meet
   case rel => exact ⟨_, (true), (by first | rfl | (simp; done) | (simp [*]; done)), H', ⟨by first | omega | exact Nat.le_refl _⟩, ⟨by refine bT ?_; exact BK264.out⟩, ⟨by refine bT ?_; exact BK265.out⟩, ⟨bA⟩⟩
 case rest =>
  clear HC3
  try clear c1
  try clear p2
  try clear c4
  try clear c6
  try clear c6b0
  try clear c6b1
  try clear c7
  try clear c7b0
  try clear c7b1
  try clear c8
  try clear c11
  try clear c14
  try clear hcz10_0
  try clear hcz10_1
  try clear hcz10_2
  try clear hcz12_0
  try clear hcz12_1
  try clear hcz12_2
  try clear hcz13_0
  try clear hcz13_1
  try clear hcz13_2
  try clear hcz15_0
  try clear hcz15_1
  try clear hcz15_2
  try clear hcz16_0
  try clear hcz16_1
  try clear hcz16_2
  try clear hcz9_0
  try clear hcz9_1
  try clear hcz9_2
  try clear hfz10_0
  try clear hfz10_1
  try clear hfz10_2
  try clear hfz12_0
  try clear hfz12_1
  try clear hfz12_2
  try clear hfz13_0
  try clear hfz13_1
  try clear hfz13_2
  try clear hfz15_0
  try clear hfz15_1
  try clear hfz15_2
  try clear hfz16_0
  try clear hfz16_1
  try clear hfz16_2
  try clear hfz9_0
  try clear hfz9_1
  try clear hfz9_2
  obtain ⟨kq, x26_2, rfl, HA, HJ2, BK264, BK265, HB⟩ := hcut
  cases kq with
  | zero => exact absurd HA.out (by simp [l13_same.j0])
  | succ kj2 =>
   have H := HA.out
   clear HA
   simp only [l13_same.j0] at H
   by_cases c17 : x26_2 = true
   ·subst c17
    have H1 : (none) = some r := by rw [if_pos rfl] at H; exact H
    clear H
    have H := H1
    clear H1
    exact absurd H (by simp)
   ·replace c17 := Bool.eq_false_iff.mpr c17
    subst c17
    have H1 : (l13_same.l0 kj2 0 a0_0 l0_1 a0_2 a1_0 l1_1 a1_2) = some r := by rw [if_neg (show ¬ (false = true) by decide)] at H; exact H
    clear H
    have H := H1
    clear H1
    have H' := Ax.mk H
    clear H
    go_wp2
    go_loopg [5] kj2 (fun kq v5 w' => ∃ (x5_2 : Int), v5 = .int .i64 x5_2 ∧ Ax (l13_same.l0 kq x5_2 a0_0 l0_1 a0_2 a1_0 l1_1 a1_2 = some r) ∧ Ax (kq ≤ kj2) ∧ Ax (w'.heap[gb264]? = some (.cells #[.int .u64 a0_0, (.slice A0_1 l0_1.length c0_1), .string a0_2] 66 (0, 0))) ∧ Ax (w'.heap[gb265]? = some (.cells #[.int .u64 a1_0, (.slice A1_1 l1_1.length c1_1), .string a1_2] 68 (0, 0))) ∧ Ax (Below w.heap.size w w'))
    case atStart => exact ⟨(0), (by first | rfl | (simp; done) | (simp [*]; done)), H', ⟨Nat.le_refl _⟩, ⟨by refine bT ?_; exact BK264.out⟩, ⟨by refine bT ?_; exact BK265.out⟩, ⟨bA⟩⟩
    case round =>
     clear H'
     try clear c1
     try clear p2
     try clear c4
     try clear c6
     try clear c6b0
     try clear c6b1
     try clear c7
     try clear c7b0
     try clear c7b1
     try clear c8
     try clear c11
     try clear c14
     try clear c17
     try clear hcz10_0
     try clear hcz10_1
     try clear hcz10_2
     try clear hcz12_0
     try clear hcz12_1
     try clear hcz12_2
     try clear hcz13_0
     try clear hcz13_1
     try clear hcz13_2
     try clear hcz15_0
     try clear hcz15_1
     try clear hcz15_2
     try clear hcz16_0
     try clear hcz16_1
     try clear hcz16_2
     try clear hcz9_0
     try clear hcz9_1
     try clear hcz9_2
     try clear hfz10_0
     try clear hfz10_1
     try clear hfz10_2
     try clear hfz12_0
     try clear hfz12_1
     try clear hfz12_2
     try clear hfz13_0
     try clear hfz13_1
     try clear hfz13_2
     try clear hfz15_0
     try clear hfz15_1
     try clear hfz15_2
     try clear hfz16_0
     try clear hfz16_1
     try clear hfz16_2
     try clear hfz9_0
     try clear hfz9_1
     try clear hfz9_2
     try clear p2
     obtain ⟨x5_2, rfl, HA, HK2, BK264, BK265, HB⟩ := hrel
     cases gk with
     | zero => exact absurd HA.out (by simp [l13_same.l0])
     | succ k2 =>
      have H := HA.out
      clear HA
      simp only [l13_same.l0] at H
      by_cases c18 : x5_2 < (l0_1.length : Int)
      ·rw [if_pos c18] at H
       have c18b0 : decide (x5_2 < (l0_1.length : Int)) = true := decide_eq_true c18
       clear c18
       by_cases c19 : 0 ≤ x5_2
       ·rw [if_pos c19] at H
        have c19b0 : decide (0 ≤ x5_2) = true := decide_eq_true c19
        clear c19
        by_cases c20 : x5_2 < (l1_1.length : Int)
        ·rw [if_pos c20] at H
         have c20b0 : decide (x5_2 < (l1_1.length : Int)) = true := decide_eq_true c20
         clear c20
         by_cases c21 : ((rd_T44 l0_1 x5_2).f0) = ((rd_T46 l1_1 x5_2).f0)
         ·rw [if_pos c21] at H
          have c21b0 : (((rd_T44 l0_1 x5_2).f0) == ((rd_T46 l1_1 x5_2).f0)) = true := beq_iff_eq.mpr c21
          have c21b1 : (((rd_T44 l0_1 x5_2).f0) != ((rd_T46 l1_1 x5_2).f0)) = false := bne_eq_false_iff_eq.mpr c21
          clear c21
          replace H := Option.bind_eq_some_iff.mp H
          obtain ⟨t270, A220, H⟩ := H
          replace H : (if t270 = true then (l13_same.l0 k2 (wrap64 (x5_2 + 1)) a0_0 l0_1 a0_2 a1_0 l1_1 a1_2) else (none)) = some r := H
          have A22 := Ax.mk A220
          clear A220
          by_cases c23 : t270 = true
          ·subst c23
           have H1 : (l13_same.l0 k2 (wrap64 (x5_2 + 1)) a0_0 l0_1 a0_2 a1_0 l1_1 a1_2) = some r := by rw [if_pos rfl] at H; exact H
           clear H
           have H := H1
           clear H1
           have H' := Ax.mk H
           clear H
           have hnb24 := NB264_265.out
           have hnc24 := NB265_264.out
           have hcz25_0 : wr.cell? ⟨gb264, 0, none⟩ = some (.int .u64 a0_0) := (bC BK264.out 0).trans rfl
           have hcz25_1 : wr.cell? ⟨gb264, 1, none⟩ = some (.slice A0_1 l0_1.length c0_1) := (bC BK264.out 1).trans rfl
           have hcz25_2 : wr.cell? ⟨gb264, 2, none⟩ = some (.string a0_2) := (bC BK264.out 2).trans rfl
           have hfz25_0 := bF BK264.out 0
           have hfz25_1 := bF BK264.out 1
           have hfz25_2 := bF BK264.out 2
           try go_wp2
           have n0_ := Ax.mk (blk_drew BK264.out)
           have n1_ := Ax.mk (blk_drew BK265.out)
           have n2_ := Ax.mk (below_drew1 HB.out)
           clear BK264
           clear BK265
           clear HB
           have BK264 := n0_
           have BK265 := n1_
           have HB := n2_
           clear n0_ n1_ n2_
           have p266 : 0 ≤ (x5_2 : Int) := of_decide_eq_true (by first | (with_reducible assumption) | assumption)
           have q266 : x5_2 < (l0_1.length : Int) := of_decide_eq_true (by first | (with_reducible assumption) | assumption)
           obtain ⟨ad266, A266_1, c266_1, e266, hx266_0, hx266_1, hl266_1, hi266_1⟩ := at_T44 HR0_1.out x5_2 p266 q266
           have hw266_1 := hx266_1
           have hw266_0 := hx266_0
           cases e266
           replace hx266_0 := (HB.out.cell (World.block_lt_of_cell? w _ hx266_0)).trans hx266_0
           replace hx266_1 := (HB.out.cell (World.block_lt_of_cell? w _ hx266_1)).trans hx266_1
           have HR266_1 := Ax.mk hi266_1
           have HC266_1 := Ax.mk hl266_1
           clear hi266_1 hl266_1
           replace p266 := eq_true p266
           replace q266 := eq_true q266
           have p267 : 0 ≤ (x5_2 : Int) := of_decide_eq_true (by first | (with_reducible assumption) | assumption)
           have q267 : x5_2 < (l1_1.length : Int) := of_decide_eq_true (by first | (with_reducible assumption) | assumption)
           obtain ⟨ad267, A267_1, c267_1, e267, hx267_0, hx267_1, hl267_1, hi267_1⟩ := at_T46 HR1_1.out x5_2 p267 q267
           have hw267_1 := hx267_1
           have hw267_0 := hx267_0
           cases e267
           replace hx267_0 := (HB.out.cell (World.block_lt_of_cell? w _ hx267_0)).trans hx267_0
           replace hx267_1 := (HB.out.cell (World.block_lt_of_cell? w _ hx267_1)).trans hx267_1
           have HR267_1 := Ax.mk hi267_1
           have HC267_1 := Ax.mk hl267_1
           clear hi267_1 hl267_1
           replace p267 := eq_true p267
           replace q267 := eq_true q267
           have p268 : 0 ≤ (x5_2 : Int) := of_decide_eq_true (by first | (with_reducible assumption) | assumption)
           have q268 : x5_2 < (l0_1.length : Int) := of_decide_eq_true (by first | (with_reducible assumption) | assumption)
           obtain ⟨ad268, A268_1, c268_1, e268, hx268_0, hx268_1, hl268_1, hi268_1⟩ := at_T44 HR0_1.out x5_2 p268 q268
           have hw268_1 := hx268_1
           have hw268_0 := hx268_0
           obtain rfl : ad266 = ad268 := (by injection e268)
           replace hx268_0 := (HB.out.cell (World.block_lt_of_cell? w _ hx268_0)).trans hx268_0
           replace hx268_1 := (HB.out.cell (World.block_lt_of_cell? w _ hx268_1)).trans hx268_1
           have HR268_1 := Ax.mk hi268_1
           have HC268_1 := Ax.mk hl268_1
           clear hi268_1 hl268_1
           replace p268 := eq_true p268
           replace q268 := eq_true q268
           have ea_ := Option.some.inj (hx266_1.symm.trans hx268_1)
           injection ea_ with ea_ en_ ec_
           subst ea_
           subst ec_
           clear en_
           have p269 : 0 ≤ (x5_2 : Int) := of_decide_eq_true (by first | (with_reducible assumption) | assumption)
           have q269 : x5_2 < (l1_1.length : Int) := of_decide_eq_true (by first | (with_reducible assumption) | assumption)
           obtain ⟨ad269, A269_1, c269_1, e269, hx269_0, hx269_1, hl269_1, hi269_1⟩ := at_T46 HR1_1.out x5_2 p269 q269
           have hw269_1 := hx269_1
           have hw269_0 := hx269_0
           obtain rfl : ad267 = ad269 := (by injection e269)
           replace hx269_0 := (HB.out.cell (World.block_lt_of_cell? w _ hx269_0)).trans hx269_0
           replace hx269_1 := (HB.out.cell (World.block_lt_of_cell? w _ hx269_1)).trans hx269_1
           have HR269_1 := Ax.mk hi269_1
           have HC269_1 := Ax.mk hl269_1
           clear hi269_1 hl269_1
           replace p269 := eq_true p269
           replace q269 := eq_true q269
           have ea_ := Option.some.inj (hx267_1.symm.trans hx269_1)
           injection ea_ with ea_ en_ ec_
           subst ea_
           subst ec_
           clear en_
           refine start_ (n := 29) (S := fun w' => w'.cell? ⟨gb264, 0, none⟩ = some (.int .u64 a0_0) ∧ w'.cell? ⟨gb264, 1, none⟩ = some (.slice (some ad266) l0_1.length c0_1) ∧ w'.cell? ⟨gb264, 2, none⟩ = some (.string a0_2) ∧ w'.cell? ⟨gb265, 0, none⟩ = some (.int .u64 a1_0) ∧ w'.cell? ⟨gb265, 1, none⟩ = some (.slice (some ad267) l1_1.length c1_1) ∧ w'.cell? ⟨gb265, 2, none⟩ = some (.string a1_2) ∧ w'.cell? (ad266.add ((x5_2).toNat * 2)) = some (.int .u64 ((rd_T44 l0_1 x5_2).f0)) ∧ w'.cell? ⟨(ad266.add ((x5_2).toNat * 2)).block, (ad266.add ((x5_2).toNat * 2)).off + 1, none⟩ = some (.slice A266_1 ((rd_T44 l0_1 x5_2).f1).length c266_1) ∧ w'.cell? (ad267.add ((x5_2).toNat * 2)) = some (.int .u64 ((rd_T46 l1_1 x5_2).f0)) ∧ w'.cell? ⟨(ad267.add ((x5_2).toNat * 2)).block, (ad267.add ((x5_2).toNat * 2)).off + 1, none⟩ = some (.slice A267_1 ((rd_T46 l1_1 x5_2).f1).length c267_1) ∧ w'.cell? (ad266.add ((x5_2).toNat * 2)) = some (.int .u64 ((rd_T44 l0_1 x5_2).f0)) ∧ w'.cell? ⟨(ad266.add ((x5_2).toNat * 2)).block, (ad266.add ((x5_2).toNat * 2)).off + 1, none⟩ = some (.slice A266_1 ((rd_T44 l0_1 x5_2).f1).length c266_1) ∧ w'.cell? (ad267.add ((x5_2).toNat * 2)) = some (.int .u64 ((rd_T46 l1_1 x5_2).f0)) ∧ w'.cell? ⟨(ad267.add ((x5_2).toNat * 2)).block, (ad267.add ((x5_2).toNat * 2)).off + 1, none⟩ = some (.slice A267_1 ((rd_T46 l1_1 x5_2).f1).length c267_1)) (ds := []) #[false, false, false, false, false, false, false, false, false, false, false, false, false, false, false, false, false, false, false, false, false, false, false, false, false, false, false, false, false] (by kernel_rfl) rfl rfl ⟨(bC BK264.out 0).trans rfl, (bC BK264.out 1).trans rfl, (bC BK264.out 2).trans rfl, (bC BK265.out 0).trans rfl, (bC BK265.out 1).trans rfl, (bC BK265.out 2).trans rfl, ((HB.out.cell (World.block_lt_of_cell? w _ hw266_0)).trans hw266_0), ((HB.out.cell (World.block_lt_of_cell? w _ hw266_1)).trans hw266_1), ((HB.out.cell (World.block_lt_of_cell? w _ hw267_0)).trans hw267_0), ((HB.out.cell (World.block_lt_of_cell? w _ hw267_1)).trans hw267_1), ((HB.out.cell (World.block_lt_of_cell? w _ hw268_0)).trans hw268_0), ((HB.out.cell (World.block_lt_of_cell? w _ hw268_1)).trans hw268_1), ((HB.out.cell (World.block_lt_of_cell? w _ hw269_0)).trans hw269_0), ((HB.out.cell (World.block_lt_of_cell? w _ hw269_1)).trans hw269_1)⟩ (fun hHeld => ?_); refine with_tabW l13_same.tab6 l13_same.bits6 (fun HT_ HW_ => ?_)
           generalize wr.drew = w26 at BK264 BK265 HB HR266_1 HR267_1 HR268_1 HR269_1 hx266_0 hx266_1 hx267_0 hx267_1 hx268_0 hx268_1 hx269_0 hx269_1 hHeld ⊢
           refine pure_ (i := 0) (N := some 34) (v := ?_) (a' := ?_) #[true, false, false, false, false, false, false, false, false, false, false, false, false, false, false, false, false, false, false, false, false, false, false, false, false, false, false, false, false] rfl rfl (any_of HT_.out (by kernel_rfl)) (fun _ _ _ h => h) (Or.inl ⟨by rfl, ?_⟩) ?_ ?_
           rotate_left
           ·intro w'
            go_simp
            with_reducible rfl
           rotate_left
           ·simp only [Act.put, setIfInBounds_toArray, set_cons_zero, set_cons_succ, i64_w, i32_w]
            rfl
           refine pure_ (i := 2) (N := some 36) (v := ?_) (a' := ?_) #[true, false, true, false, false, false, false, false, false, false, false, false, false, false, false, false, false, false, false, false, false, false, false, false, false, false, false, false, false] rfl rfl (any_of HT_.out (by kernel_rfl)) (fun _ _ _ h => h) (Or.inl ⟨by rfl, ?_⟩) ?_ ?_
           rotate_left
           ·intro w'
            go_simp
            with_reducible rfl
           rotate_left
           ·simp only [Act.put, setIfInBounds_toArray, set_cons_zero, set_cons_succ, i64_w, i32_w]
            rfl
           refine pure_ (i := 6) (N := some 40) (v := ?_) (a' := ?_) #[true, false, true, false, false, false, true, false, false, false, false, false, false, false, false, false, false, false, false, false, false, false, false, false, false, false, false, false, false] rfl rfl (any_of HT_.out (by kernel_rfl)) (fun _ _ _ h => h) (Or.inl ⟨by rfl, ?_⟩) ?_ ?_
           rotate_left
           ·intro w'
            go_simp
            with_reducible rfl
           rotate_left
           ·simp only [Act.put, setIfInBounds_toArray, set_cons_zero, set_cons_succ, i64_w, i32_w]
            rfl
           refine pure_ (i := 8) (N := some 42) (v := ?_) (a' := ?_) #[true, false, true, false, false, false, true, false, true, false, false, false, false, false, false, false, false, false, false, false, false, false, false, false, false, false, false, false, false] rfl rfl (any_of HT_.out (by kernel_rfl)) (fun _ _ _ h => h) (Or.inl ⟨by rfl, ?_⟩) ?_ ?_
           rotate_left
           ·intro w'
            go_simp
            with_reducible rfl
           rotate_left
           ·simp only [Act.put, setIfInBounds_toArray, set_cons_zero, set_cons_succ, i64_w, i32_w]
            rfl
           refine take_ (i := 1) (N := some 35) (v := ?_) (a' := ?_) #[true, true, true, false, false, false, true, false, true, false, false, false, false, false, false, false, false, false, false, false, false, false, false, false, false, false, false, false, false] rfl rfl (take_ofW HT_.out HW_.out (by kernel_rfl)) (fun _ _ _ h => h) (Or.inl ⟨by rfl, ?_⟩) hHeld ?_ ?_
           rotate_left
           ·rintro w' ⟨s0, s1, s2, s3, s4, s5, s6, s7, s8, s9, s10, s11, s12, s13⟩
            go_simp
            with_reducible rfl
           rotate_left
           ·simp only [Act.put, setIfInBounds_toArray, set_cons_zero, set_cons_succ, i64_w, i32_w]
            rfl
           refine pure_ (i := 3) (N := some 37) (v := ?_) (a' := ?_) #[true, true, true, true, false, false, true, false, true, false, false, false, false, false, false, false, false, false, false, false, false, false, false, false, false, false, false, false, false] rfl rfl (any_of HT_.out (by kernel_rfl)) (fun _ _ _ h => h) (Or.inl ⟨by rfl, ?_⟩) ?_ ?_
           rotate_left
           ·intro w'
            go_simp
            with_reducible rfl
           rotate_left
           ·simp only [Act.put, setIfInBounds_toArray, set_cons_zero, set_cons_succ, i64_w, i32_w]
            rfl
           refine pure_ (i := 4) (N := some 38) (v := ?_) (a' := ?_) #[true, true, true, true, true, false, true, false, true, false, false, false, false, false, false, false, false, false, false, false, false, false, false, false, false, false, false, false, false] rfl rfl (any_of HT_.out (by kernel_rfl)) (fun _ _ _ h => h) (Or.inl ⟨by rfl, ?_⟩) ?_ ?_
           rotate_left
           ·intro w'
            go_simp
            with_reducible rfl
           rotate_left
           ·simp only [Act.put, setIfInBounds_toArray, set_cons_zero, set_cons_succ, i64_w, i32_w]
            rfl
           refine take_ (i := 5) (N := some 39) (v := ?_) (a' := ?_) #[true, true, true, true, true, true, true, false, true, false, false, false, false, false, false, false, false, false, false, false, false, false, false, false, false, false, false, false, false] rfl rfl (take_ofW HT_.out HW_.out (by kernel_rfl)) (fun _ _ _ h => h) (Or.inl ⟨by rfl, ?_⟩) hHeld ?_ ?_
           rotate_left
           ·rintro w' ⟨s0, s1, s2, s3, s4, s5, s6, s7, s8, s9, s10, s11, s12, s13⟩
            go_simp
            with_reducible rfl
           rotate_left
           ·simp only [Act.put, setIfInBounds_toArray, set_cons_zero, set_cons_succ, i64_w, i32_w]
            rfl
           refine take_ (i := 7) (N := some 41) (v := ?_) (a' := ?_) #[true, true, true, true, true, true, true, true, true, false, false, false, false, false, false, false, false, false, false, false, false, false, false, false, false, false, false, false, false] rfl rfl (take_ofW HT_.out HW_.out (by kernel_rfl)) (fun _ _ _ h => h) (Or.inl ⟨by rfl, ?_⟩) hHeld ?_ ?_
           rotate_left
           ·rintro w' ⟨s0, s1, s2, s3, s4, s5, s6, s7, s8, s9, s10, s11, s12, s13⟩
            go_simp
            with_reducible rfl
           rotate_left
           ·simp only [Act.put, setIfInBounds_toArray, set_cons_zero, set_cons_succ, i64_w, i32_w]
            rfl
           refine pure_ (i := 9) (N := some 43) (v := ?_) (a' := ?_) #[true, true, true, true, true, true, true, true, true, true, false, false, false, false, false, false, false, false, false, false, false, false, false, false, false, false, false, false, false] rfl rfl (any_of HT_.out (by kernel_rfl)) (fun _ _ _ h => h) (Or.inl ⟨by rfl, ?_⟩) ?_ ?_
           rotate_left
           ·intro w'
            go_simp
            with_reducible rfl
           rotate_left
           ·simp only [Act.put, setIfInBounds_toArray, set_cons_zero, set_cons_succ, i64_w, i32_w]
            rfl
           refine pure_ (i := 10) (N := some 44) (v := ?_) (a' := ?_) #[true, true, true, true, true, true, true, true, true, true, true, false, false, false, false, false, false, false, false, false, false, false, false, false, false, false, false, false, false] rfl rfl (any_of HT_.out (by kernel_rfl)) (fun _ _ _ h => h) (Or.inl ⟨by rfl, ?_⟩) ?_ ?_
           rotate_left
           ·intro w'
            go_simp
            with_reducible rfl
           rotate_left
           ·simp only [Act.put, setIfInBounds_toArray, set_cons_zero, set_cons_succ, i64_w, i32_w]
            rfl
           refine take_ (i := 11) (N := some 45) (v := ?_) (a' := ?_) #[true, true, true, true, true, true, true, true, true, true, true, true, false, false, false, false, false, false, false, false, false, false, false, false, false, false, false, false, false] rfl rfl (take_ofW HT_.out HW_.out (by kernel_rfl)) (fun _ _ _ h => h) (Or.inl ⟨by rfl, ?_⟩) hHeld ?_ ?_
           rotate_left
           ·rintro w' ⟨s0, s1, s2, s3, s4, s5, s6, s7, s8, s9, s10, s11, s12, s13⟩
            go_simp
            with_reducible rfl
           rotate_left
           ·simp only [Act.put, setIfInBounds_toArray, set_cons_zero, set_cons_succ, i64_w, i32_w]
            rfl
           refine pure_ (i := 12) (N := some 46) (v := ?_) (a' := ?_) #[true, true, true, true, true, true, true, true, true, true, true, true, true, false, false, false, false, false, false, false, false, false, false, false, false, false, false, false, false] rfl rfl (any_of HT_.out (by kernel_rfl)) (fun _ _ _ h => h) (Or.inl ⟨by rfl, ?_⟩) ?_ ?_
           rotate_left
           ·intro w'
            go_simp
            with_reducible rfl
           rotate_left
           ·simp only [Act.put, setIfInBounds_toArray, set_cons_zero, set_cons_succ, i64_w, i32_w]
            rfl
           refine pure_ (i := 13) (N := some 47) (v := ?_) (a' := ?_) #[true, true, true, true, true, true, true, true, true, true, true, true, true, true, false, false, false, false, false, false, false, false, false, false, false, false, false, false, false] rfl rfl (any_of HT_.out (by kernel_rfl)) (fun _ _ _ h => h) (Or.inl ⟨by rfl, ?_⟩) ?_ ?_
           rotate_left
           ·intro w'
            go_simp
            with_reducible rfl
           rotate_left
           ·simp only [Act.put, setIfInBounds_toArray, set_cons_zero, set_cons_succ, i64_w, i32_w]
            rfl
           refine pure_ (i := 14) (N := some 48) (v := ?_) (a' := ?_) #[true, true, true, true, true, true, true, true, true, true, true, true, true, true, true, false, false, false, false, false, false, false, false, false, false, false, false, false, false] rfl rfl (any_of HT_.out (by kernel_rfl)) (fun _ _ _ h => h) (Or.inl ⟨by rfl, ?_⟩) ?_ ?_
           rotate_left
           ·intro w'
            go_simp
            with_reducible rfl
           rotate_left
           ·simp only [Act.put, setIfInBounds_toArray, set_cons_zero, set_cons_succ, i64_w, i32_w]
            rfl
           refine pure_ (i := 16) (N := some 50) (v := ?_) (a' := ?_) #[true, true, true, true, true, true, true, true, true, true, true, true, true, true, true, false, true, false, false, false, false, false, false, false, false, false, false, false, false] rfl rfl (any_of HT_.out (by kernel_rfl)) (fun _ _ _ h => h) (Or.inl ⟨by rfl, ?_⟩) ?_ ?_
           rotate_left
           ·intro w'
            go_simp
            with_reducible rfl
           rotate_left
           ·simp only [Act.put, setIfInBounds_toArray, set_cons_zero, set_cons_succ, i64_w, i32_w]
            rfl
           refine pure_ (i := 20) (N := some 54) (v := ?_) (a' := ?_) #[true, true, true, true, true, true, true, true, true, true, true, true, true, true, true, false, true, false, false, false, true, false, false, false, false, false, false, false, false] rfl rfl (any_of HT_.out (by kernel_rfl)) (fun _ _ _ h => h) (Or.inl ⟨by rfl, ?_⟩) ?_ ?_
           rotate_left
           ·intro w'
            go_simp
            with_reducible rfl
           rotate_left
           ·simp only [Act.put, setIfInBounds_toArray, set_cons_zero, set_cons_succ, i64_w, i32_w]
            rfl
           refine pure_ (i := 22) (N := some 56) (v := ?_) (a' := ?_) #[true, true, true, true, true, true, true, true, true, true, true, true, true, true, true, false, true, false, false, false, true, false, true, false, false, false, false, false, false] rfl rfl (any_of HT_.out (by kernel_rfl)) (fun _ _ _ h => h) (Or.inl ⟨by rfl, ?_⟩) ?_ ?_
           rotate_left
           ·intro w'
            go_simp
            with_reducible rfl
           rotate_left
           ·simp only [Act.put, setIfInBounds_toArray, set_cons_zero, set_cons_succ, i64_w, i32_w]
            rfl
           refine take_ (i := 15) (N := some 49) (v := ?_) (a' := ?_) #[true, true, true, true, true, true, true, true, true, true, true, true, true, true, true, true, true, false, false, false, true, false, true, false, false, false, false, false, false] rfl rfl (take_ofW HT_.out HW_.out (by kernel_rfl)) (fun _ _ _ h => h) (Or.inl ⟨by rfl, ?_⟩) hHeld ?_ ?_
           rotate_left
           ·rintro w' ⟨s0, s1, s2, s3, s4, s5, s6, s7, s8, s9, s10, s11, s12, s13⟩
            go_simp
            with_reducible rfl
           rotate_left
           ·simp only [Act.put, setIfInBounds_toArray, set_cons_zero, set_cons_succ, i64_w, i32_w]
            rfl
           refine pure_ (i := 17) (N := some 51) (v := ?_) (a' := ?_) #[true, true, true, true, true, true, true, true, true, true, true, true, true, true, true, true, true, true, false, false, true, false, true, false, false, false, false, false, false] rfl rfl (any_of HT_.out (by kernel_rfl)) (fun _ _ _ h => h) (Or.inl ⟨by rfl, ?_⟩) ?_ ?_
           rotate_left
           ·intro w'
            go_simp
            with_reducible rfl
           rotate_left
           ·simp only [Act.put, setIfInBounds_toArray, set_cons_zero, set_cons_succ, i64_w, i32_w]
            rfl
           refine pure_ (i := 18) (N := some 52) (v := ?_) (a' := ?_) #[true, true, true, true, true, true, true, true, true, true, true, true, true, true, true, true, true, true, true, false, true, false, true, false, false, false, false, false, false] rfl rfl (any_of HT_.out (by kernel_rfl)) (fun _ _ _ h => h) (Or.inl ⟨by rfl, ?_⟩) ?_ ?_
           rotate_left
           ·intro w'
            go_simp
            with_reducible rfl
           rotate_left
           ·simp only [Act.put, setIfInBounds_toArray, set_cons_zero, set_cons_succ, i64_w, i32_w]
            rfl
           refine take_ (i := 19) (N := some 53) (v := ?_) (a' := ?_) #[true, true, true, true, true, true, true, true, true, true, true, true, true, true, true, true, true, true, true, true, true, false, true, false, false, false, false, false, false] rfl rfl (take_ofW HT_.out HW_.out (by kernel_rfl)) (fun _ _ _ h => h) (Or.inl ⟨by rfl, ?_⟩) hHeld ?_ ?_
           rotate_left
           ·rintro w' ⟨s0, s1, s2, s3, s4, s5, s6, s7, s8, s9, s10, s11, s12, s13⟩
            go_simp
            with_reducible rfl
           rotate_left
           ·simp only [Act.put, setIfInBounds_toArray, set_cons_zero, set_cons_succ, i64_w, i32_w]
            rfl
           refine take_ (i := 21) (N := some 55) (v := ?_) (a' := ?_) #[true, true, true, true, true, true, true, true, true, true, true, true, true, true, true, true, true, true, true, true, true, true, true, false, false, false, false, false, false] rfl rfl (take_ofW HT_.out HW_.out (by kernel_rfl)) (fun _ _ _ h => h) (Or.inl ⟨by rfl, ?_⟩) hHeld ?_ ?_
           rotate_left
           ·rintro w' ⟨s0, s1, s2, s3, s4, s5, s6, s7, s8, s9, s10, s11, s12, s13⟩
            go_simp
            with_reducible rfl
           rotate_left
           ·simp only [Act.put, setIfInBounds_toArray, set_cons_zero, set_cons_succ, i64_w, i32_w]
            rfl
           refine pure_ (i := 23) (N := some 57) (v := ?_) (a' := ?_) #[true, true, true, true, true, true, true, true, true, true, true, true, true, true, true, true, true, true, true, true, true, true, true, true, false, false, false, false, false] rfl rfl (any_of HT_.out (by kernel_rfl)) (fun _ _ _ h => h) (Or.inl ⟨by rfl, ?_⟩) ?_ ?_
           rotate_left
           ·intro w'
            go_simp
            with_reducible rfl
           rotate_left
           ·simp only [Act.put, setIfInBounds_toArray, set_cons_zero, set_cons_succ, i64_w, i32_w]
            rfl
           refine pure_ (i := 24) (N := some 58) (v := ?_) (a' := ?_) #[true, true, true, true, true, true, true, true, true, true, true, true, true, true, true, true, true, true, true, true, true, true, true, true, true, false, false, false, false] rfl rfl (any_of HT_.out (by kernel_rfl)) (fun _ _ _ h => h) (Or.inl ⟨by rfl, ?_⟩) ?_ ?_
           rotate_left
           ·intro w'
            go_simp
            with_reducible rfl
           rotate_left
           ·simp only [Act.put, setIfInBounds_toArray, set_cons_zero, set_cons_succ, i64_w, i32_w]
            rfl
           refine take_ (i := 25) (N := some 59) (v := ?_) (a' := ?_) #[true, true, true, true, true, true, true, true, true, true, true, true, true, true, true, true, true, true, true, true, true, true, true, true, true, true, false, false, false] rfl rfl (take_ofW HT_.out HW_.out (by kernel_rfl)) (fun _ _ _ h => h) (Or.inl ⟨by rfl, ?_⟩) hHeld ?_ ?_
           rotate_left
           ·rintro w' ⟨s0, s1, s2, s3, s4, s5, s6, s7, s8, s9, s10, s11, s12, s13⟩
            go_simp
            with_reducible rfl
           rotate_left
           ·simp only [Act.put, setIfInBounds_toArray, set_cons_zero, set_cons_succ, i64_w, i32_w]
            rfl
           refine one_ (i := 26) (N := some 60) #[true, true, true, true, true, true, true, true, true, true, true, true, true, true, true, true, true, true, true, true, true, true, true, true, true, true, true, false, false] rfl rfl (one_of HT_.out (by kernel_rfl)) (by decide) (fun K hK => ?_)
           refine goes_ Tryd.func35 (by kernel_rfl) rfl #[.slice A266_1 ((rd_T44 l0_1 x5_2).f1).length c266_1, .slice A267_1 ((rd_T46 l1_1 x5_2).f1).length c267_1] (by rfl) rfl rfl (by (try simp only [List.map_toArray, List.map_cons, List.map_nil]); first | done | rfl | (simp only [List.length_drop, List.length_take]; rfl) | (rw [wrap_sum2 (by assumption)]; rfl)) ?_
           with_reducible refine (l13_sameSteps.calls k2 _ _ ((rd_T44 l0_1 x5_2).f1) _ _ ((rd_T46 l1_1 x5_2).f1) true _ ?side1 ?side2 ?side3 ?side4 A22.out).mono ?_
           (case side1 => repeat (first | exact (Kd.C_below HR268_1.out HB.out) | (with_reducible refine Kd.C_alloc ?_ _) | (with_reducible refine Kd.C_drewN ?_ _) | (with_reducible refine Kd.C_drew ?_)))
           (case side2 => exact HC268_1.out)
           (case side3 => repeat (first | exact (Kd.C_below HR269_1.out HB.out) | (with_reducible refine Kd.C_alloc ?_ _) | (with_reducible refine Kd.C_drewN ?_ _) | (with_reducible refine Kd.C_drew ?_)))
           (case side4 => exact HC269_1.out)
           rintro e w27 ⟨rfl, hb⟩
           refine ⟨_, rfl, ?_⟩
           have n0_ := Ax.mk (bB (bT BK264.out) hb)
           have n1_ := Ax.mk (bB (bT BK265.out) hb)
           have n2_ := Ax.mk (bP bA hb)
           clear BK264
           clear BK265
           clear HB
           have BK264 := n0_
           have BK265 := n1_
           have HB := n2_
           clear n0_ n1_ n2_
           (try clear hb)
           (try clear hb2)
           (try clear hk)
           (try clear hi)
           refine hK.out _ _ ⟨(bC BK264.out 0).trans rfl, (bC BK264.out 1).trans rfl, (bC BK264.out 2).trans rfl, (bC BK265.out 0).trans rfl, (bC BK265.out 1).trans rfl, (bC BK265.out 2).trans rfl, ((HB.out.cell (World.block_lt_of_cell? w _ hw266_0)).trans hw266_0), ((HB.out.cell (World.block_lt_of_cell? w _ hw266_1)).trans hw266_1), ((HB.out.cell (World.block_lt_of_cell? w _ hw267_0)).trans hw267_0), ((HB.out.cell (World.block_lt_of_cell? w _ hw267_1)).trans hw267_1), ((HB.out.cell (World.block_lt_of_cell? w _ hw268_0)).trans hw268_0), ((HB.out.cell (World.block_lt_of_cell? w _ hw268_1)).trans hw268_1), ((HB.out.cell (World.block_lt_of_cell? w _ hw269_0)).trans hw269_0), ((HB.out.cell (World.block_lt_of_cell? w _ hw269_1)).trans hw269_1)⟩ (fun hHeld => ?_)
           clear hK K
           refine norm_ (a' := ?_) ?_ ?_
           rotate_left
           ·show Act.put _ (some 60) _ = _
            simp only [Act.put, setIfInBounds_toArray, set_cons_zero, set_cons_succ, i64_w, i32_w]
            rfl
           refine pure_ (i := 27) (N := some 61) (v := ?_) (a' := ?_) #[true, true, true, true, true, true, true, true, true, true, true, true, true, true, true, true, true, true, true, true, true, true, true, true, true, true, true, true, false] rfl rfl (any_of HT_.out (by kernel_rfl)) (fun _ _ _ h => h) (Or.inl ⟨by rfl, ?_⟩) ?_ ?_
           rotate_left
           ·intro w'
            go_simp
            with_reducible rfl
           rotate_left
           ·simp only [Act.put, setIfInBounds_toArray, set_cons_zero, set_cons_succ, i64_w, i32_w]
            rfl
           refine pure_ (i := 28) (N := some 62) (v := ?_) (a' := ?_) #[true, true, true, true, true, true, true, true, true, true, true, true, true, true, true, true, true, true, true, true, true, true, true, true, true, true, true, true, true] rfl rfl (any_of HT_.out (by kernel_rfl)) (fun _ _ _ h => h) (Or.inl ⟨by rfl, ?_⟩) ?_ ?_
           rotate_left
           ·intro w'
            go_simp
            with_reducible rfl
           rotate_left
           ·simp only [Act.put, setIfInBounds_toArray, set_cons_zero, set_cons_succ, i64_w, i32_w]
            rfl
           refine done_ (done_of HT_.out (by kernel_rfl)) ?_
           try go_wp2
           go_roundg k2
           case measure => have := HJ2.out; have := HK2.out; omega
           case rel => exact ⟨(wrap64 (x5_2 + 1)), (by first | rfl | (simp; done) | (simp [*]; done)), H', ⟨by have := HJ2.out; have := HK2.out; omega⟩, ⟨by refine bT ?_; exact BK264.out⟩, ⟨by refine bT ?_; exact BK265.out⟩, ⟨bA⟩⟩
          ·replace c23 := Bool.eq_false_iff.mpr c23
           subst c23
           have H1 : (none) = some r := by rw [if_neg (show ¬ (false = true) by decide)] at H; exact H
           clear H
           have H := H1
           clear H1
           exact absurd H (by simp)
         ·rw [if_neg c21] at H
          have c21b0 : (((rd_T44 l0_1 x5_2).f0) == ((rd_T46 l1_1 x5_2).f0)) = false := beq_eq_false_iff_ne.mpr c21
          have c21b1 : (((rd_T44 l0_1 x5_2).f0) != ((rd_T46 l1_1 x5_2).f0)) = true := bne_iff_ne.mpr c21
          exact absurd H (by simp)
        ·rw [if_neg c20] at H
         exact absurd H (by simp)
       ·rw [if_neg c19] at H
        exact absurd H (by simp)
      ·rw [if_neg c18] at H
       have c18b0 : decide (x5_2 < (l0_1.length : Int)) = false := decide_eq_false c18
       clear c18
       obtain rfl := Option.some.inj H
       have hnb28 := NB264_265.out
       have hnc28 := NB265_264.out
       have hcz29_0 : wr.cell? ⟨gb264, 0, none⟩ = some (.int .u64 a0_0) := (bC BK264.out 0).trans rfl
       have hcz29_1 : wr.cell? ⟨gb264, 1, none⟩ = some (.slice A0_1 l0_1.length c0_1) := (bC BK264.out 1).trans rfl
       have hcz29_2 : wr.cell? ⟨gb264, 2, none⟩ = some (.string a0_2) := (bC BK264.out 2).trans rfl
       have hfz29_0 := bF BK264.out 0
       have hfz29_1 := bF BK264.out 1
       have hfz29_2 := bF BK264.out 2
       go_wp2
       go_ret
       exact ⟨by first | rfl | (simp [errW_none, errW_some] <;> rfl) | (simp [*, errW_none, errW_some] <;> rfl), bA⟩
mutual
def l13_built.j0 : Nat → List (List (S24)) → Bool → Int → List (S44) → ByteArray → Int → List (S46) → ByteArray → Option (Int × (List (S44)) × ByteArray × Int × (List (S46)) × ByteArray × Bool)
 | 0, _, _, _, _, _, _, _, _ => none
 | k + 1, x2, x39, x338000, x338001, x338002, x348000, x348001, x348002 => if x39 = true then (none) else (l13_built.l0 k x2 0 x338000 x338001 x338002 x348000 x348001 x348002)
def l13_built.l0 : Nat → List (List (S24)) → Int → Int → List (S44) → ByteArray → Int → List (S46) → ByteArray → Option (Int × (List (S44)) × ByteArray × Int × (List (S46)) × ByteArray × Bool)
 | 0, _, _, _, _, _, _, _, _ => none
 | k + 1, x2, x13, x338000, x338001, x338002, x348000, x348001, x348002 => if x13 < (x2.length : Int) then (if 0 ≤ x13 then ((journal_Add.f k x338000 x338001 x338002 (rd_L4 x2 x13)).bind fun bt350 => ((l13_steps.f k (rd_L4 x2 x13)).bind fun t358 => ((r13_Add.f k x348000 x348001 x348002 t358).bind fun bt361 => (if bt350.2.2.2 = bt361.2.2.2 then ((l13_same.f k bt350.1 bt350.2.1 bt350.2.2.1 bt361.1 bt361.2.1 bt361.2.2.1).bind fun t368 => (l13_built.j2 k x2 x13 bt350.2.2.2 (!t368) x338000 x338001 x338002 x348000 x348001 x348002 bt350.1 bt350.2.1 bt350.2.2.1 bt361.1 bt361.2.1 bt361.2.2.1)) else (l13_built.j2 k x2 x13 bt350.2.2.2 true x338000 x338001 x338002 x348000 x348001 x348002 bt350.1 bt350.2.1 bt350.2.2.1 bt361.1 bt361.2.1 bt361.2.2.1))))) else (none)) else (some (x338000, x338001, x338002, x348000, x348001, x348002, true))
def l13_built.j2 : Nat → List (List (S24)) → Int → Int → Bool → Int → List (S44) → ByteArray → Int → List (S46) → ByteArray → Int → List (S44) → ByteArray → Int → List (S46) → ByteArray → Option (Int × (List (S44)) × ByteArray × Int × (List (S46)) × ByteArray × Bool)
 | 0, _, _, _, _, _, _, _, _, _, _, _, _, _, _, _, _ => none
 | k + 1, x2, x13, x15, x75, x338000, x338001, x338002, x348000, x348001, x348002, x357000, x357001, x357002, x368000, x368001, x368002 => if x75 = true then (none) else (if x15 = 0 then (l13_built.l0 k x2 (wrap64 (x13 + 1)) x357000 x357001 x357002 x368000 x368001 x368002) else (l13_built.l0 k x2 (wrap64 (x13 + 1)) x338000 x338001 x338002 x348000 x348001 x348002))
end
def l13_built.f (k : Nat) (a0 : Int) (l1 : List (S24)) (l2 : List (List (S24))) : Option (Int × (List (S44)) × ByteArray × Int × (List (S46)) × ByteArray × Bool) := (journal_New.f k a0 l1).bind fun bt331 => ((l13_steps.f k l1).bind fun t338 => ((r13_New.f k a0 t338).bind fun bt341 => (if bt331.2.2.2 = bt341.2.2.2 then ((l13_same.f k bt331.1 bt331.2.1 bt331.2.2.1 bt341.1 bt341.2.1 bt341.2.2.1).bind fun t348 => (l13_built.j0 k l2 (!t348) bt331.1 bt331.2.1 bt331.2.2.1 bt341.1 bt341.2.1 bt341.2.2.1)) else (l13_built.j0 k l2 true bt331.1 bt331.2.1 bt331.2.2.1 bt341.1 bt341.2.1 bt341.2.2.1))))
theorem l13_built.mono_l : ∀ k, (∀ y0 y1 y2 y3 y4 y5 y6 y7, LeO (l13_built.j0 k y0 y1 y2 y3 y4 y5 y6 y7) (l13_built.j0 (k + 1) y0 y1 y2 y3 y4 y5 y6 y7)) ∧ (∀ y0 y1 y2 y3 y4 y5 y6 y7, LeO (l13_built.l0 k y0 y1 y2 y3 y4 y5 y6 y7) (l13_built.l0 (k + 1) y0 y1 y2 y3 y4 y5 y6 y7)) ∧ (∀ y0 y1 y2 y3 y4 y5 y6 y7 y8 y9 y10 y11 y12 y13 y14 y15, LeO (l13_built.j2 k y0 y1 y2 y3 y4 y5 y6 y7 y8 y9 y10 y11 y12 y13 y14 y15) (l13_built.j2 (k + 1) y0 y1 y2 y3 y4 y5 y6 y7 y8 y9 y10 y11 y12 y13 y14 y15))
 | 0 => ⟨fun _ _ _ _ _ _ _ _ r h => by simp [l13_built.j0] at h, fun _ _ _ _ _ _ _ _ r h => by simp [l13_built.l0] at h, fun _ _ _ _ _ _ _ _ _ _ _ _ _ _ _ _ r h => by simp [l13_built.j2] at h⟩
 | k + 1 => by
  obtain ⟨ih0, ih1, ih2⟩ := l13_built.mono_l k
  refine ⟨?_, ?_, ?_⟩
  ·intro y0 y1 y2 y3 y4 y5 y6 y7
   unfold l13_built.j0
   repeat' first
   | (with_reducible exact ih0 _ _ _ _ _ _ _ _)
   | (with_reducible exact ih1 _ _ _ _ _ _ _ _)
   | (with_reducible exact ih2 _ _ _ _ _ _ _ _ _ _ _ _ _ _ _ _)
   | (with_reducible exact journal_Add.mono _ _ _ _ _)
   | (with_reducible exact journal_New.mono _ _ _)
   | (with_reducible exact l13_same.mono _ _ _ _ _ _ _)
   | (with_reducible exact l13_steps.mono _ _)
   | (with_reducible exact r13_Add.mono _ _ _ _ _)
   | (with_reducible exact r13_New.mono _ _ _)
   | (with_reducible exact LeO.refl _)
   | (with_reducible exact LeO.none _)
   | (with_reducible refine LeO.ite ?_ ?_)
   | (with_reducible refine LeO.bind ?_ (fun _ => ?_))
   | exact ih0 _ _ _ _ _ _ _ _
   | exact ih1 _ _ _ _ _ _ _ _
   | exact ih2 _ _ _ _ _ _ _ _ _ _ _ _ _ _ _ _
   | exact journal_Add.mono _ _ _ _ _
   | exact journal_New.mono _ _ _
   | exact l13_same.mono _ _ _ _ _ _ _
   | exact l13_steps.mono _ _
   | exact r13_Add.mono _ _ _ _ _
   | exact r13_New.mono _ _ _
   | exact LeO.none _
   | refine LeO.ite ?_ ?_
   | refine LeO.bind ?_ (fun _ => ?_)
  ·intro y0 y1 y2 y3 y4 y5 y6 y7
   unfold l13_built.l0
   repeat' first
   | (with_reducible exact ih0 _ _ _ _ _ _ _ _)
   | (with_reducible exact ih1 _ _ _ _ _ _ _ _)
   | (with_reducible exact ih2 _ _ _ _ _ _ _ _ _ _ _ _ _ _ _ _)
   | (with_reducible exact journal_Add.mono _ _ _ _ _)
   | (with_reducible exact journal_New.mono _ _ _)
   | (with_reducible exact l13_same.mono _ _ _ _ _ _ _)
   | (with_reducible exact l13_steps.mono _ _)
   | (with_reducible exact r13_Add.mono _ _ _ _ _)
   | (with_reducible exact r13_New.mono _ _ _)
   | (with_reducible exact LeO.refl _)
   | (with_reducible exact LeO.none _)
   | (with_reducible refine LeO.ite ?_ ?_)
   | (with_reducible refine LeO.bind ?_ (fun _ => ?_))
   | exact ih0 _ _ _ _ _ _ _ _
   | exact ih1 _ _ _ _ _ _ _ _
   | exact ih2 _ _ _ _ _ _ _ _ _ _ _ _ _ _ _ _
   | exact journal_Add.mono _ _ _ _ _
   | exact journal_New.mono _ _ _
   | exact l13_same.mono _ _ _ _ _ _ _
   | exact l13_steps.mono _ _
   | exact r13_Add.mono _ _ _ _ _
   | exact r13_New.mono _ _ _
   | exact LeO.none _
   | refine LeO.ite ?_ ?_
   | refine LeO.bind ?_ (fun _ => ?_)
  ·intro y0 y1 y2 y3 y4 y5 y6 y7 y8 y9 y10 y11 y12 y13 y14 y15
   unfold l13_built.j2
   repeat' first
   | (with_reducible exact ih0 _ _ _ _ _ _ _ _)
   | (with_reducible exact ih1 _ _ _ _ _ _ _ _)
   | (with_reducible exact ih2 _ _ _ _ _ _ _ _ _ _ _ _ _ _ _ _)
   | (with_reducible exact journal_Add.mono _ _ _ _ _)
   | (with_reducible exact journal_New.mono _ _ _)
   | (with_reducible exact l13_same.mono _ _ _ _ _ _ _)
   | (with_reducible exact l13_steps.mono _ _)
   | (with_reducible exact r13_Add.mono _ _ _ _ _)
   | (with_reducible exact r13_New.mono _ _ _)
   | (with_reducible exact LeO.refl _)
   | (with_reducible exact LeO.none _)
   | (with_reducible refine LeO.ite ?_ ?_)
   | (with_reducible refine LeO.bind ?_ (fun _ => ?_))
   | exact ih0 _ _ _ _ _ _ _ _
   | exact ih1 _ _ _ _ _ _ _ _
   | exact ih2 _ _ _ _ _ _ _ _ _ _ _ _ _ _ _ _
   | exact journal_Add.mono _ _ _ _ _
   | exact journal_New.mono _ _ _
   | exact l13_same.mono _ _ _ _ _ _ _
   | exact l13_steps.mono _ _
   | exact r13_Add.mono _ _ _ _ _
   | exact r13_New.mono _ _ _
   | exact LeO.none _
   | refine LeO.ite ?_ ?_
   | refine LeO.bind ?_ (fun _ => ?_)
theorem l13_built.mono : ∀ a0 a1 a2 k, LeO (l13_built.f k a0 a1 a2) (l13_built.f (k + 1) a0 a1 a2) := by
 intro a0 a1 a2 k
 obtain ⟨ih0, ih1, ih2⟩ := l13_built.mono_l k
 unfold l13_built.f
 repeat' first
   | (with_reducible exact ih0 _ _ _ _ _ _ _ _)
   | (with_reducible exact ih1 _ _ _ _ _ _ _ _)
   | (with_reducible exact ih2 _ _ _ _ _ _ _ _ _ _ _ _ _ _ _ _)
   | (with_reducible exact journal_Add.mono _ _ _ _ _)
   | (with_reducible exact journal_New.mono _ _ _)
   | (with_reducible exact l13_same.mono _ _ _ _ _ _ _)
   | (with_reducible exact l13_steps.mono _ _)
   | (with_reducible exact r13_Add.mono _ _ _ _ _)
   | (with_reducible exact r13_New.mono _ _ _)
   | (with_reducible exact LeO.refl _)
   | (with_reducible exact LeO.none _)
   | (with_reducible refine LeO.ite ?_ ?_)
   | (with_reducible refine LeO.bind ?_ (fun _ => ?_))
   | exact ih0 _ _ _ _ _ _ _ _
   | exact ih1 _ _ _ _ _ _ _ _
   | exact ih2 _ _ _ _ _ _ _ _ _ _ _ _ _ _ _ _
   | exact journal_Add.mono _ _ _ _ _
   | exact journal_New.mono _ _ _
   | exact l13_same.mono _ _ _ _ _ _ _
   | exact l13_steps.mono _ _
   | exact r13_Add.mono _ _ _ _ _
   | exact r13_New.mono _ _ _
   | exact LeO.none _
   | refine LeO.ite ?_ ?_
   | refine LeO.bind ?_ (fun _ => ?_)
def l13_built.T8 : Bool × List (List Nat × List Nat) := (true, [([], []), ([], []), ([], []), ([1, 2], [1, 2]), ([3], [3]), ([0, 4], [0, 4]), ([5], [5]), ([6], [6]), ([6], [6]), ([], []), ([9, 7, 5, 0, 1, 2, 3, 4, 5, 6, 7, 9], [7, 9]), ([8, 10, 0, 1, 2, 3, 4, 5, 6, 7, 8, 9, 10], [8])])
def l13_built.B8 : List Nat := [0, 0, 0, 6, 14, 31, 63, 127, 127, 0, 767, 2047]
theorem l13_built.tab8 : rtab .any (opsOf Tryd.f34 8) = l13_built.T8 := by kernel_rfl
theorem l13_built.bits8 : waitsOk l13_built.T8.2 l13_built.B8 = true := by kernel_rfl
def l13_built.T9 : Bool × List (List Nat × List Nat) := (true, [([], []), ([], []), ([], []), ([1, 2], [1, 2]), ([3], [3]), ([4], [4]), ([0, 5, 5], [0, 5]), ([6], [6]), ([7], [7]), ([7], [7]), ([], []), ([10, 8, 6, 0, 1, 2, 3, 4, 5, 6, 7, 8, 10], [8, 10]), ([9, 11, 0, 1, 2, 3, 4, 5, 6, 7, 8, 9, 10, 11], [9])])
def l13_built.B9 : List Nat := [0, 0, 0, 6, 14, 30, 63, 127, 255, 255, 0, 1535, 4095]
theorem l13_built.tab9 : rtab .any (opsOf Tryd.f34 9) = l13_built.T9 := by kernel_rfl
theorem l13_built.bits9 : waitsOk l13_built.T9.2 l13_built.B9 = true := by kernel_rfl
set_option maxHeartbeats 8000000 in
set_option maxRecDepth 100000 in
theorem l13_built.calls (k : Nat) (a0 : Int) (A1 : Option Addr) (c1 : Nat) (l1 : List (S24)) (A2 : Option Addr) (c2 : Nat) (l2 : List (List (S24))) (r1 : Int) (r2 : List (S44)) (r3 : ByteArray) (r4 : Int) (r5 : List (S46)) (r6 : ByteArray) (r7 : Bool) (w : World) (hr1 : Kd.C k24 w A1 l1.length l1) (hc1 : l1.length ≤ c1) (hr2 : Kd.C (Kd.slice 24 k24) w A2 l2.length l2) (hc2 : l2.length ≤ c2) (h : l13_built.f k a0 l1 l2 = some (r1, r2, r3, r4, r5, r6, r7)) (HT : Tabs w) :
  Calls Tryd.prog 34 #[.int .u64 a0, .slice A1 l1.length c1, .slice A2 l2.length c2] w fun e w' => ∃ v1_ v4_ : Value, e = .returned (.tuple #[.agg #[.int .u64 r1, v1_, .string r3], .agg #[.int .u64 r4, v4_, .string r6], .bool r7]) ∧ Kd.N k44 44 w' w.heap.size (fun k_ => (w.heap.size ≤ k_) ∧ some k_ ≠ (v4_ : Value).ownBlock) v1_ r2 ∧ Kd.N k46 46 w' w.heap.size (fun k_ => (w.heap.size ≤ k_) ∧ some k_ ≠ (v1_ : Value).ownBlock) v4_ r5 ∧ Below w.heap.size w w' := by
 have hu66 := Tryd.underlying66
 have hu68 := Tryd.underlying68
 have HR1 := Ax.mk hr1
 have HC1 := Ax.mk hc1
 clear hr1 hc1
 have HR2 := Ax.mk hr2
 have HC2 := Ax.mk hc2
 clear hr2 hc2
 have HB := Ax.mk (Below.refl w.heap.size w)
 have H : ((journal_New.f k a0 l1).bind fun bt331 => ((l13_steps.f k l1).bind fun t338 => ((r13_New.f k a0 t338).bind fun bt341 => (if bt331.2.2.2 = bt341.2.2.2 then ((l13_same.f k bt331.1 bt331.2.1 bt331.2.2.1 bt341.1 bt341.2.1 bt341.2.2.1).bind fun t348 => (l13_built.j0 k l2 (!t348) bt331.1 bt331.2.1 bt331.2.2.1 bt341.1 bt341.2.1 bt341.2.2.1)) else (l13_built.j0 k l2 true bt331.1 bt331.2.1 bt331.2.2.1 bt341.1 bt341.2.1 bt341.2.2.1))))) = some (r1, r2, r3, r4, r5, r6, r7) := h
 clear h
 replace H := Option.bind_eq_some_iff.mp H
 obtain ⟨⟨t331, t332, t335, t336⟩, A40, H⟩ := H
 replace H : ((l13_steps.f k l1).bind fun t338 => ((r13_New.f k a0 t338).bind fun bt341 => (if t336 = bt341.2.2.2 then ((l13_same.f k t331 t332 t335 bt341.1 bt341.2.1 bt341.2.2.1).bind fun t348 => (l13_built.j0 k l2 (!t348) t331 t332 t335 bt341.1 bt341.2.1 bt341.2.2.1)) else (l13_built.j0 k l2 true t331 t332 t335 bt341.1 bt341.2.1 bt341.2.2.1)))) = some (r1, r2, r3, r4, r5, r6, r7) := H
 have A4 := Ax.mk A40
 clear A40
 replace H := Option.bind_eq_some_iff.mp H
 obtain ⟨t338, A50, H⟩ := H
 replace H : ((r13_New.f k a0 t338).bind fun bt341 => (if t336 = bt341.2.2.2 then ((l13_same.f k t331 t332 t335 bt341.1 bt341.2.1 bt341.2.2.1).bind fun t348 => (l13_built.j0 k l2 (!t348) t331 t332 t335 bt341.1 bt341.2.1 bt341.2.2.1)) else (l13_built.j0 k l2 true t331 t332 t335 bt341.1 bt341.2.1 bt341.2.2.1))) = some (r1, r2, r3, r4, r5, r6, r7) := H
 have A5 := Ax.mk A50
 clear A50
 replace H := Option.bind_eq_some_iff.mp H
 obtain ⟨⟨t341, t342, t345, t346⟩, A60, H⟩ := H
 replace H : (if t336 = t346 then ((l13_same.f k t331 t332 t335 t341 t342 t345).bind fun t348 => (l13_built.j0 k l2 (!t348) t331 t332 t335 t341 t342 t345)) else (l13_built.j0 k l2 true t331 t332 t335 t341 t342 t345)) = some (r1, r2, r3, r4, r5, r6, r7) := H
 have A6 := Ax.mk A60
 clear A60
 have HC7 := Ax.mk H
 clear H
 go_enter Tryd.func34, Tryd.ntmps34
 go_upto_region 3 with (first | ((with_reducible refine gate_dst (N := 6) rfl ?_); refine box_event ?hg (N := 6) ?hd (cs := #[.int .u64 0, .slice none 0 0, .string (⟨#[]⟩ : ByteArray)]) (t := 66) ?hr ?_; (case hd => rfl); (case hg => rfl); (case hr => first | (go_simp; done) | (go_simp; rfl)); intro gb329 hg w8 hbox hb; have n0_ := Ax.mk (bP bA hb); have n1_ := Ax.mk (hbox); have n2_ := Ax.mk ((ge_new hg : w.heap.size ≤ gb329)); have n3_ := n2_; clear HB; have HB := n0_; have BK329 := n1_; have GW329 := n2_; have GE329 := n3_; clear n0_ n1_ n2_ n3_; clear hb hbox hg) | ((with_reducible refine gate_dst (N := 7) rfl ?_); refine box_event ?hg (N := 7) ?hd (cs := #[.int .u64 0, .slice none 0 0, .string (⟨#[]⟩ : ByteArray)]) (t := 68) ?hr ?_; (case hd => rfl); (case hg => rfl); (case hr => first | (go_simp; done) | (go_simp; rfl)); intro gb330 hg w9 hbox hb; have n0_ := Ax.mk (bB (bT BK329.out) hb); have n1_ := Ax.mk (bP bA hb); have n2_ := Ax.mk (hbox); have n3_ := Ax.mk ((ge_new hg : w.heap.size ≤ gb330)); have n4_ := n3_; have n5_ := Ax.mk ((ne_lt hg BK329.out : gb329 ≠ gb330)); have n6_ := Ax.mk ((ne_gt hg BK329.out : gb330 ≠ gb329)); clear BK329; clear HB; have BK329 := n0_; have HB := n1_; have BK330 := n2_; have GW330 := n3_; have GE330 := n4_; have NB329_330 := n5_; have NB330_329 := n6_; clear n0_ n1_ n2_ n3_ n4_ n5_ n6_; clear hb hbox hg) | ((with_reducible refine gate_callee (f := 38) rfl ?_); refine goesL_ (some 21) rfl rfl Tryd.func38 (by kernel_rfl) rfl #[.int .u64 a0, .slice A1 l1.length c1] rfl (by (try simp only [List.map_toArray, List.map_cons, List.map_nil]); first | done | rfl | (simp only [List.length_drop, List.length_take]; rfl) | (rw [wrap_sum2 (by assumption)]; rfl)) ?_; (with_reducible refine (journal_New.calls k a0 _ _ l1 t331 t332 t335 t336 _ ?side1 ?side2 A4.out (HT.below bA)).mono ?_); (case side1 => repeat (first | exact (Kd.C_below HR1.out HB.out) | (with_reducible refine Kd.C_alloc ?_ _) | (with_reducible refine Kd.C_drewN ?_ _) | (with_reducible refine Kd.C_drew ?_))); (case side2 => exact HC1.out); rintro e w10 ⟨v333, rfl, ho0, hb⟩; refine ⟨_, rfl, ?_⟩; have n0_ := Ax.mk (Kd.N_lower (Kd.N_mono (ok' := fun k_ => (w.heap.size ≤ k_) ∧ k_ ≠ gb329 ∧ k_ ≠ gb330) ho0 (fun k_ hk_ => ⟨(Nat.le_trans (bS bA) hk_), (Kd.freshB (g := gb329) (o := .cells #[.int .u64 0, .slice none 0 0, .string (⟨#[]⟩ : ByteArray)] 66 (0, 0)) (bT BK329.out) k_ hk_), (Kd.freshB (g := gb330) (o := .cells #[.int .u64 0, .slice none 0 0, .string (⟨#[]⟩ : ByteArray)] 68 (0, 0)) (bT BK330.out) k_ hk_)⟩)) (bS bA)); have n1_ := Ax.mk (bB (bT BK329.out) hb); have n2_ := Ax.mk (bB (bT BK330.out) hb); have n3_ := Ax.mk (bP bA hb); clear BK329; clear BK330; clear HB; have HO334 := n0_; have BK329 := n1_; have BK330 := n2_; have HB := n3_; clear n0_ n1_ n2_ n3_; (try clear hb); (try clear hb2); (try clear hk); (try clear hi); (try clear ho0)) | ((with_reducible refine gate_dst (N := 9) rfl ?_); refine box_event ?hg (N := 9) ?hd (cs := #[.int .u64 0, .slice none 0 0, .string (⟨#[]⟩ : ByteArray)]) (t := 66) ?hr ?_; (case hd => rfl); (case hg => rfl); (case hr => first | (go_simp; done) | (go_simp; rfl)); intro gb337 hg w11 hbox hb; have n0_ := Ax.mk (Kd.N_below (Kd.N_elderB (by exact Kd.N_to HO334.out) gb337 (Nat.le_of_eq hg.symm)) hb); have n1_ := Ax.mk (bB (bT BK329.out) hb); have n2_ := Ax.mk (bB (bT BK330.out) hb); have n3_ := Ax.mk (bP bA hb); have n4_ := Ax.mk (hbox); have n5_ := Ax.mk ((ge_new hg : w.heap.size ≤ gb337)); have n6_ := n5_; have n7_ := Ax.mk ((ne_lt hg BK329.out : gb329 ≠ gb337)); have n8_ := Ax.mk ((ne_gt hg BK329.out : gb337 ≠ gb329)); have n9_ := Ax.mk ((ne_lt hg BK330.out : gb330 ≠ gb337)); have n10_ := Ax.mk ((ne_gt hg BK330.out : gb337 ≠ gb330)); clear HO334; clear BK329; clear BK330; clear HB; have HO334 := n0_; have BK329 := n1_; have BK330 := n2_; have HB := n3_; have BK337 := n4_; have GW337 := n5_; have GE337 := n6_; have NB329_337 := n7_; have NB337_329 := n8_; have NB330_337 := n9_; have NB337_330 := n10_; clear n0_ n1_ n2_ n3_ n4_ n5_ n6_ n7_ n8_ n9_ n10_; clear hb hbox hg; have hnb12 := NB337_329.out; have hnc12 := NB329_337.out; have hnb13 := NB337_330.out; have hnc13 := NB330_337.out; have hcz14_0 : w11.cell? ⟨gb337, 0, none⟩ = some (.int .u64 0) := (bC BK337.out 0).trans rfl; have hcz14_1 : w11.cell? ⟨gb337, 1, none⟩ = some (.slice none 0 0) := (bC BK337.out 1).trans rfl; have hcz14_2 : w11.cell? ⟨gb337, 2, none⟩ = some (.string (⟨#[]⟩ : ByteArray)) := (bC BK337.out 2).trans rfl; have hfz14_0 := bF BK337.out 0; have hfz14_1 := bF BK337.out 1; have hfz14_2 := bF BK337.out 2; obtain ⟨Ao15, co15, eo15⟩ := Kd.N_slice HO334.out; subst eo15) | ((with_reducible refine gate_callee (f := 40) rfl ?_); refine goesL_ (some 27) rfl rfl Tryd.func40 (by kernel_rfl) rfl #[.slice A1 l1.length c1] rfl (by (try simp only [List.map_toArray, List.map_cons, List.map_nil]); first | done | rfl | (simp only [List.length_drop, List.length_take]; rfl) | (rw [wrap_sum2 (by assumption)]; rfl)) ?_; (with_reducible refine (l13_steps.calls k _ _ l1 t338 _ ?side1 ?side2 A5.out).mono ?_); (case side1 => exact Kd.C_below HR1.out bA); (case side2 => exact HC1.out); rintro e w16 ⟨v339, rfl, ho0, hb⟩; refine ⟨_, rfl, ?_⟩; have n0_ := Ax.mk (Kd.N_elder' (by apply Kd.N_to; exact (Kd.N_mono (Kd.N_far (p := ⟨gb337, 2, none⟩) (Kd.N_far (p := ⟨gb337, 1, none⟩) (Kd.N_far (p := ⟨gb337, 0, none⟩) (Kd.N_mono HO334.out (fun k_ hk => (⟨hk, hk.2⟩ : _ ∧ k_ ≠ gb337))) (fun _ hk => hk.2) (.int .u64 t331)) (fun _ hk => hk.2) (.slice Ao15 t332.length co15)) (fun _ hk => hk.2) (.string t335)) (fun _ h_ => h_.1))) (Kd.R_base ho0) hb); have n1_ := Ax.mk (Kd.R_lower (Kd.R_newM (M := fun k_ => (w.heap.size ≤ k_)) ho0 (bS bA) (fun k_ h_ => h_)) (bS bA)); have n2_ := Ax.mk (bB (g := gb329) (o := .cells #[.int .u64 0, .slice none 0 0, .string (⟨#[]⟩ : ByteArray)] 66 (0, 0)) (by refine bT ?_; refine bR ?_ NB329_337.out _; refine bT ?_; refine bR ?_ NB329_337.out _; refine bT ?_; refine bR ?_ NB329_337.out _; exact bT BK329.out) hb); have n3_ := Ax.mk (bB (g := gb330) (o := .cells #[.int .u64 0, .slice none 0 0, .string (⟨#[]⟩ : ByteArray)] 68 (0, 0)) (by refine bT ?_; refine bR ?_ NB330_337.out _; refine bT ?_; refine bR ?_ NB330_337.out _; refine bT ?_; refine bR ?_ NB330_337.out _; exact bT BK330.out) hb); have n4_ := Ax.mk (bB (g := gb337) (o := .cells #[.int .u64 t331, .slice Ao15 t332.length co15, .string t335] 66 (0, 0)) (by refine bT ?_; refine bU (cs := #[.int .u64 t331, .slice Ao15 t332.length co15, .string (⟨#[]⟩ : ByteArray)]) ?_ 2 _ rfl; refine bT ?_; refine bU (cs := #[.int .u64 t331, .slice none 0 0, .string (⟨#[]⟩ : ByteArray)]) ?_ 1 _ rfl; refine bT ?_; refine bU (cs := #[.int .u64 0, .slice none 0 0, .string (⟨#[]⟩ : ByteArray)]) ?_ 0 _ rfl; exact bT BK337.out) hb); have n5_ := Ax.mk (bP bA hb); clear HO334; clear BK329; clear BK330; clear BK337; clear HB; have HO334 := n0_; have HO340 := n1_; have BK329 := n2_; have BK330 := n3_; have BK337 := n4_; have HB := n5_; clear n0_ n1_ n2_ n3_ n4_ n5_; (try clear hb); (try clear hb2); (try clear hk); (try clear hi); (try clear ho0); obtain ⟨Ao17, co17, eo17⟩ := Kd.R_slice HO340.out; subst eo17) | ((with_reducible refine gate_callee (f := 60) rfl ?_); refine goesL_ (some 28) rfl rfl Tryd.func60 (by kernel_rfl) rfl #[.int .u64 a0, .slice Ao17 t338.length co17] rfl (by (try simp only [List.map_toArray, List.map_cons, List.map_nil]); first | done | rfl | (simp only [List.length_drop, List.length_take]; rfl) | (rw [wrap_sum2 (by assumption)]; rfl)) ?_; (with_reducible refine (r13_New.calls k a0 (fun k_ => some k_ = (.slice Ao17 t338.length co17 : Value).ownBlock) _ _ t338 t341 t342 t345 t346 _ ?side1 A6.out).mono ?_); (case side1 => exact Kd.R_V (Kd.R_tight rfl (Kd.R_types (Kd.R_types (Kd.R_types (Kd.R_apart' (HO340.out) (Kd.N_typed HO334.out) (by decide)) BK329.out (by decide)) BK330.out (by decide)) BK337.out (by decide)))); rintro e w18 ⟨v343, rfl, ho0, hb⟩; refine ⟨_, rfl, ?_⟩; have n0_ := Ax.mk (Kd.N_elder' (by exact Kd.N_to HO334.out) (Kd.N_base ho0) hb); have n1_ := Ax.mk (Kd.R_below (by exact Kd.R_to HO340.out) hb); have n2_ := Ax.mk (Kd.N_lower (Kd.N_mono (ok' := fun k_ => (w.heap.size ≤ k_) ∧ some k_ ≠ (.slice Ao15 t332.length co15 : Value).ownBlock ∧ k_ ≠ gb329 ∧ k_ ≠ gb330 ∧ k_ ≠ gb337) ho0 (fun k_ hk_ => ⟨Or.elim hk_ (fun hs_ => ((Kd.R_types (Kd.R_types (Kd.R_types (Kd.R_apart' (HO340.out) (Kd.N_typed HO334.out) (by decide)) BK329.out (by decide)) BK330.out (by decide)) BK337.out (by decide)).1 k_ hs_.symm).1.1.1.1.1) (fun hn_ => (Nat.le_trans (bS bA) hn_)), Or.elim hk_ (fun hs_ => ((Kd.R_types (Kd.R_types (Kd.R_types (Kd.R_apart' (HO340.out) (Kd.N_typed HO334.out) (by decide)) BK329.out (by decide)) BK330.out (by decide)) BK337.out (by decide)).1 k_ hs_.symm).1.1.1.2) (fun hn_ => (Kd.fresh' (Kd.N_lt (by exact Kd.N_to HO334.out)) k_ hn_)), Or.elim hk_ (fun hs_ => ((Kd.R_types (Kd.R_types (Kd.R_types (Kd.R_apart' (HO340.out) (Kd.N_typed HO334.out) (by decide)) BK329.out (by decide)) BK330.out (by decide)) BK337.out (by decide)).1 k_ hs_.symm).1.1.2) (fun hn_ => (Kd.freshB (g := gb329) (o := .cells #[.int .u64 0, .slice none 0 0, .string (⟨#[]⟩ : ByteArray)] 66 (0, 0)) (bT BK329.out) k_ hn_)), Or.elim hk_ (fun hs_ => ((Kd.R_types (Kd.R_types (Kd.R_types (Kd.R_apart' (HO340.out) (Kd.N_typed HO334.out) (by decide)) BK329.out (by decide)) BK330.out (by decide)) BK337.out (by decide)).1 k_ hs_.symm).1.2) (fun hn_ => (Kd.freshB (g := gb330) (o := .cells #[.int .u64 0, .slice none 0 0, .string (⟨#[]⟩ : ByteArray)] 68 (0, 0)) (bT BK330.out) k_ hn_)), Or.elim hk_ (fun hs_ => ((Kd.R_types (Kd.R_types (Kd.R_types (Kd.R_apart' (HO340.out) (Kd.N_typed HO334.out) (by decide)) BK329.out (by decide)) BK330.out (by decide)) BK337.out (by decide)).1 k_ hs_.symm).2) (fun hn_ => (Kd.freshB (g := gb337) (o := .cells #[.int .u64 t331, .slice Ao15 t332.length co15, .string t335] 66 (0, 0)) (bT BK337.out) k_ hn_))⟩)) (bS bA)); have n3_ := Ax.mk (bB (bT BK329.out) hb); have n4_ := Ax.mk (bB (bT BK330.out) hb); have n5_ := Ax.mk (bB (bT BK337.out) hb); have n6_ := Ax.mk (bP bA hb); clear HO334; clear HO340; clear BK329; clear BK330; clear BK337; clear HB; have HO334 := n0_; have HO340 := n1_; have HO344 := n2_; have BK329 := n3_; have BK330 := n4_; have BK337 := n5_; have HB := n6_; clear n0_ n1_ n2_ n3_ n4_ n5_ n6_; (try clear hb); (try clear hb2); (try clear hk); (try clear hi); (try clear ho0)) | ((with_reducible refine gate_dst (N := 11) rfl ?_); refine box_event ?hg (N := 11) ?hd (cs := #[.int .u64 0, .slice none 0 0, .string (⟨#[]⟩ : ByteArray)]) (t := 68) ?hr ?_; (case hd => rfl); (case hg => rfl); (case hr => first | (go_simp; done) | (go_simp; rfl)); intro gb347 hg w19 hbox hb; have n0_ := Ax.mk (Kd.N_below (Kd.N_elderB (by exact Kd.N_to HO334.out) gb347 (Nat.le_of_eq hg.symm)) hb); have n1_ := Ax.mk (Kd.R_below (by exact Kd.R_to HO340.out) hb); have n2_ := Ax.mk (Kd.N_below (Kd.N_elderB (by exact Kd.N_to HO344.out) gb347 (Nat.le_of_eq hg.symm)) hb); have n3_ := Ax.mk (bB (bT BK329.out) hb); have n4_ := Ax.mk (bB (bT BK330.out) hb); have n5_ := Ax.mk (bB (bT BK337.out) hb); have n6_ := Ax.mk (bP bA hb); have n7_ := Ax.mk (hbox); have n8_ := Ax.mk ((ge_new hg : w.heap.size ≤ gb347)); have n9_ := n8_; have n10_ := Ax.mk ((ne_lt hg BK329.out : gb329 ≠ gb347)); have n11_ := Ax.mk ((ne_gt hg BK329.out : gb347 ≠ gb329)); have n12_ := Ax.mk ((ne_lt hg BK330.out : gb330 ≠ gb347)); have n13_ := Ax.mk ((ne_gt hg BK330.out : gb347 ≠ gb330)); have n14_ := Ax.mk ((ne_lt hg BK337.out : gb337 ≠ gb347)); have n15_ := Ax.mk ((ne_gt hg BK337.out : gb347 ≠ gb337)); clear HO334; clear HO340; clear HO344; clear BK329; clear BK330; clear BK337; clear HB; have HO334 := n0_; have HO340 := n1_; have HO344 := n2_; have BK329 := n3_; have BK330 := n4_; have BK337 := n5_; have HB := n6_; have BK347 := n7_; have GW347 := n8_; have GE347 := n9_; have NB329_347 := n10_; have NB347_329 := n11_; have NB330_347 := n12_; have NB347_330 := n13_; have NB337_347 := n14_; have NB347_337 := n15_; clear n0_ n1_ n2_ n3_ n4_ n5_ n6_ n7_ n8_ n9_ n10_ n11_ n12_ n13_ n14_ n15_; clear hb hbox hg; have hnb20 := NB347_329.out; have hnc20 := NB329_347.out; have hnb21 := NB347_330.out; have hnc21 := NB330_347.out; have hnb22 := NB347_337.out; have hnc22 := NB337_347.out; have hcz23_0 : w19.cell? ⟨gb347, 0, none⟩ = some (.int .u64 0) := (bC BK347.out 0).trans rfl; have hcz23_1 : w19.cell? ⟨gb347, 1, none⟩ = some (.slice none 0 0) := (bC BK347.out 1).trans rfl; have hcz23_2 : w19.cell? ⟨gb347, 2, none⟩ = some (.string (⟨#[]⟩ : ByteArray)) := (bC BK347.out 2).trans rfl; have hfz23_0 := bF BK347.out 0; have hfz23_1 := bF BK347.out 1; have hfz23_2 := bF BK347.out 2; obtain ⟨Ao24, co24, eo24⟩ := Kd.N_slice HO344.out; subst eo24))
 (try simp only [Act.put, setIfInBounds_toArray, set_cons_zero, set_cons_succ])
 go_cut [39] (fun v39 wc => ∃ (kq : Nat) (x39_6 : Bool), v39 = .bool x39_6 ∧ Ax (l13_built.j0 kq l2 x39_6 t331 t332 t335 t341 t342 t345 = some (r1, r2, r3, r4, r5, r6, r7)) ∧ Ax (kq ≤ k) ∧ Ax (Kd.N k44 44 wc w.heap.size (fun k_ => (w.heap.size ≤ k_) ∧ some k_ ≠ ((.slice Ao24 t342.length co24) : Value).ownBlock ∧ k_ ≠ gb329 ∧ k_ ≠ gb330 ∧ k_ ≠ gb337 ∧ k_ ≠ gb347) (.slice Ao15 t332.length co15) t332) ∧ Ax (Kd.N k46 46 wc w.heap.size (fun k_ => (w.heap.size ≤ k_) ∧ some k_ ≠ ((.slice Ao15 t332.length co15) : Value).ownBlock ∧ k_ ≠ gb329 ∧ k_ ≠ gb330 ∧ k_ ≠ gb337 ∧ k_ ≠ gb347) (.slice Ao24 t342.length co24) t342) ∧ Ax (wc.heap[gb329]? = some (.cells #[.int .u64 0, (.slice none 0 0), .string (⟨#[]⟩ : ByteArray)] 66 (0, 0))) ∧ Ax (wc.heap[gb330]? = some (.cells #[.int .u64 0, (.slice none 0 0), .string (⟨#[]⟩ : ByteArray)] 68 (0, 0))) ∧ Ax (wc.heap[gb337]? = some (.cells #[.int .u64 t331, (.slice Ao15 t332.length co15), .string t335] 66 (0, 0))) ∧ Ax (wc.heap[gb347]? = some (.cells #[.int .u64 t341, (.slice Ao24 t342.length co24), .string t345] 68 (0, 0))) ∧ Ax (Below w.heap.size w wc))
 case first =>
  have H := HC7.out
  clear HC7
  by_cases c25 : t336 = t346
  ·rw [if_pos c25] at H
   have c25b0 : (t336 == t346) = true := beq_iff_eq.mpr c25
   have c25b1 : (t336 != t346) = false := bne_eq_false_iff_eq.mpr c25
   clear c25
   (first | rw [c25b0] | (simp only [i64_w, i32_w]; rw [c25b0]) | skip)
   replace H := Option.bind_eq_some_iff.mp H
   obtain ⟨t348, A260, H⟩ := H
   replace H : (l13_built.j0 k l2 (!t348) t331 t332 t335 t341 t342 t345) = some (r1, r2, r3, r4, r5, r6, r7) := H
   have A26 := Ax.mk A260
   clear A260
   have H' := Ax.mk H
   clear H
   have hnb27 := NB337_329.out
   have hnc27 := NB329_337.out
   have hnb28 := NB337_330.out
   have hnc28 := NB330_337.out
   have hnb29 := NB337_347.out
   have hnc29 := NB347_337.out
   have hcz30_0 : w19.cell? ⟨gb337, 0, none⟩ = some (.int .u64 t331) := (bC BK337.out 0).trans rfl
   have hcz30_1 : w19.cell? ⟨gb337, 1, none⟩ = some (.slice Ao15 t332.length co15) := (bC BK337.out 1).trans rfl
   have hcz30_2 : w19.cell? ⟨gb337, 2, none⟩ = some (.string t335) := (bC BK337.out 2).trans rfl
   have hfz30_0 := bF BK337.out 0
   have hfz30_1 := bF BK337.out 1
   have hfz30_2 := bF BK337.out 2
   have hnb31 := NB347_329.out
   have hnc31 := NB329_347.out
   have hnb32 := NB347_330.out
   have hnc32 := NB330_347.out
   have hcz33_0 : w19.cell? ⟨gb347, 0, none⟩ = some (.int .u64 0) := (bC BK347.out 0).trans rfl
   have hcz33_1 : w19.cell? ⟨gb347, 1, none⟩ = some (.slice none 0 0) := (bC BK347.out 1).trans rfl
   have hcz33_2 : w19.cell? ⟨gb347, 2, none⟩ = some (.string (⟨#[]⟩ : ByteArray)) := (bC BK347.out 2).trans rfl
   have hfz33_0 := bF BK347.out 0
   have hfz33_1 := bF BK347.out 1
   have hfz33_2 := bF BK347.out 2
   go_wp2_with (first | (go_at_call 41; (with_reducible refine (l13_same.calls k t331 _ _ t332 t335 t341 _ _ t342 t345 t348 _ ?side1 ?side2 ?side3 ?side4 A26.out).mono ?_); (case side1 => refine (Kd.N_reads' (e := 44) (base := w.heap.size) (ok := fun k_ => ((((((w.heap.size ≤ k_) ∧ (k_ ≠ gb329 ∧ k_ ≠ gb330)) ∧ k_ ≠ gb337) ∧ some k_ ≠ (.slice Ao17 t338.length co17 : Value).ownBlock) ∧ some k_ ≠ (.slice Ao24 t342.length co24 : Value).ownBlock) ∧ k_ ≠ gb347)) (n := t332.length) (c := co15) ?_).2.2; exact (by apply Kd.N_to; exact (Kd.N_mono (Kd.N_far (p := ⟨gb347, 2, none⟩) (Kd.N_far (p := ⟨gb347, 1, none⟩) (Kd.N_far (p := ⟨gb347, 0, none⟩) (Kd.N_mono HO334.out (fun k_ hk => (⟨hk, hk.2⟩ : _ ∧ k_ ≠ gb347))) (fun _ hk => hk.2) (.int .u64 t341)) (fun _ hk => hk.2) (.slice Ao24 t342.length co24)) (fun _ hk => hk.2) (.string t345)) (fun _ h_ => h_.1)))); (case side2 => exact (Kd.N_reads' HO334.out).2.1); (case side3 => refine (Kd.N_reads' (e := 46) (base := w.heap.size) (ok := fun k_ => (((w.heap.size ≤ k_) ∧ (some k_ ≠ (.slice Ao15 t332.length co15 : Value).ownBlock ∧ (k_ ≠ gb329 ∧ (k_ ≠ gb330 ∧ k_ ≠ gb337)))) ∧ k_ ≠ gb347)) (n := t342.length) (c := co24) ?_).2.2; exact (by apply Kd.N_to; exact (Kd.N_mono (Kd.N_far (p := ⟨gb347, 2, none⟩) (Kd.N_far (p := ⟨gb347, 1, none⟩) (Kd.N_far (p := ⟨gb347, 0, none⟩) (Kd.N_mono HO344.out (fun k_ hk => (⟨hk, hk.2⟩ : _ ∧ k_ ≠ gb347))) (fun _ hk => hk.2) (.int .u64 t341)) (fun _ hk => hk.2) (.slice Ao24 t342.length co24)) (fun _ hk => hk.2) (.string t345)) (fun _ h_ => h_.1)))); (case side4 => exact (Kd.N_reads' HO344.out).2.1); rintro e w34 ⟨rfl, hb⟩; have n0_ := Ax.mk (Kd.N_below (by apply Kd.N_to; exact (Kd.N_mono (Kd.N_far (p := ⟨gb347, 2, none⟩) (Kd.N_far (p := ⟨gb347, 1, none⟩) (Kd.N_far (p := ⟨gb347, 0, none⟩) (Kd.N_mono HO334.out (fun k_ hk => (⟨hk, hk.2⟩ : _ ∧ k_ ≠ gb347))) (fun _ hk => hk.2) (.int .u64 t341)) (fun _ hk => hk.2) (.slice Ao24 t342.length co24)) (fun _ hk => hk.2) (.string t345)) (fun _ h_ => h_.1))) hb); have n1_ := Ax.mk (Kd.R_below (by apply Kd.R_to; exact (Kd.R_mono (Kd.R_far (p := ⟨gb347, 2, none⟩) (Kd.R_far (p := ⟨gb347, 1, none⟩) (Kd.R_far (p := ⟨gb347, 0, none⟩) (Kd.R_types HO340.out BK347.out (by decide)) (fun _ hk => hk.2) (.int .u64 t341)) (fun _ hk => hk.2) (.slice Ao24 t342.length co24)) (fun _ hk => hk.2) (.string t345)) (fun _ h_ => h_.1))) hb); have n2_ := Ax.mk (Kd.N_below (by apply Kd.N_to; exact (Kd.N_mono (Kd.N_far (p := ⟨gb347, 2, none⟩) (Kd.N_far (p := ⟨gb347, 1, none⟩) (Kd.N_far (p := ⟨gb347, 0, none⟩) (Kd.N_mono HO344.out (fun k_ hk => (⟨hk, hk.2⟩ : _ ∧ k_ ≠ gb347))) (fun _ hk => hk.2) (.int .u64 t341)) (fun _ hk => hk.2) (.slice Ao24 t342.length co24)) (fun _ hk => hk.2) (.string t345)) (fun _ h_ => h_.1))) hb); have n3_ := Ax.mk (bB (g := gb329) (o := .cells #[.int .u64 0, .slice none 0 0, .string (⟨#[]⟩ : ByteArray)] 66 (0, 0)) (by refine bT ?_; refine bR ?_ NB329_347.out _; refine bT ?_; refine bR ?_ NB329_347.out _; refine bT ?_; refine bR ?_ NB329_347.out _; exact bT BK329.out) hb); have n4_ := Ax.mk (bB (g := gb330) (o := .cells #[.int .u64 0, .slice none 0 0, .string (⟨#[]⟩ : ByteArray)] 68 (0, 0)) (by refine bT ?_; refine bR ?_ NB330_347.out _; refine bT ?_; refine bR ?_ NB330_347.out _; refine bT ?_; refine bR ?_ NB330_347.out _; exact bT BK330.out) hb); have n5_ := Ax.mk (bB (g := gb337) (o := .cells #[.int .u64 t331, .slice Ao15 t332.length co15, .string t335] 66 (0, 0)) (by refine bT ?_; refine bR ?_ NB337_347.out _; refine bT ?_; refine bR ?_ NB337_347.out _; refine bT ?_; refine bR ?_ NB337_347.out _; exact bT BK337.out) hb); have n6_ := Ax.mk (bB (g := gb347) (o := .cells #[.int .u64 t341, .slice Ao24 t342.length co24, .string t345] 68 (0, 0)) (by refine bT ?_; refine bU (cs := #[.int .u64 t341, .slice Ao24 t342.length co24, .string (⟨#[]⟩ : ByteArray)]) ?_ 2 _ rfl; refine bT ?_; refine bU (cs := #[.int .u64 t341, .slice none 0 0, .string (⟨#[]⟩ : ByteArray)]) ?_ 1 _ rfl; refine bT ?_; refine bU (cs := #[.int .u64 0, .slice none 0 0, .string (⟨#[]⟩ : ByteArray)]) ?_ 0 _ rfl; exact bT BK347.out) hb); have n7_ := Ax.mk (bP bA hb); clear HO334; clear HO340; clear HO344; clear BK329; clear BK330; clear BK337; clear BK347; clear HB; have HO334 := n0_; have HO340 := n1_; have HO344 := n2_; have BK329 := n3_; have BK330 := n4_; have BK337 := n5_; have BK347 := n6_; have HB := n7_; clear n0_ n1_ n2_ n3_ n4_ n5_ n6_ n7_; (try clear hb); (try clear hb2); (try clear hk); (try clear hi)))
   go_meet
   case rel => exact ⟨_, (!t348), (by first | rfl | (simp; done) | (simp [*]; done)), H', ⟨by first | omega | exact Nat.le_refl _⟩, ⟨by apply Kd.N_to; exact Kd.N_mono HO334.out (fun _ hk => ⟨hk.1.1.1.1.1, ⟨hk.1.2, ⟨hk.1.1.1.1.2.1, ⟨hk.1.1.1.1.2.2, ⟨hk.1.1.1.2, hk.2⟩⟩⟩⟩⟩)⟩, ⟨by apply Kd.N_to; exact Kd.N_mono HO344.out (fun _ hk => ⟨hk.1.1, ⟨hk.1.2.1, ⟨hk.1.2.2.1, ⟨hk.1.2.2.2.1, ⟨hk.1.2.2.2.2, hk.2⟩⟩⟩⟩⟩)⟩, ⟨by refine bT ?_; exact BK329.out⟩, ⟨by refine bT ?_; exact BK330.out⟩, ⟨by refine bT ?_; exact BK337.out⟩, ⟨by refine bT ?_; exact BK347.out⟩, ⟨bA⟩⟩
  ·rw [if_neg c25] at H
   have c25b0 : (t336 == t346) = false := beq_eq_false_iff_ne.mpr c25
   have c25b1 : (t336 != t346) = true := bne_iff_ne.mpr c25
   (first | rw [c25b0] | (simp only [i64_w, i32_w]; rw [c25b0]) | skip)
   have H' := Ax.mk H
   clear H
   go_wp2
   go_meet
   case rel => exact ⟨_, (true), (by first | rfl | (simp; done) | (simp [*]; done)), H', ⟨by first | omega | exact Nat.le_refl _⟩, ⟨by apply Kd.N_to; exact Kd.N_mono (Kd.N_far (p := ⟨gb347, 2, none⟩) (Kd.N_far (p := ⟨gb347, 1, none⟩) (Kd.N_far (p := ⟨gb347, 0, none⟩) (Kd.N_mono HO334.out (fun k_ hk => (⟨hk, hk.2⟩ : _ ∧ k_ ≠ gb347))) (fun _ hk => hk.2) (.int .u64 t341)) (fun _ hk => hk.2) (.slice Ao24 t342.length co24)) (fun _ hk => hk.2) (.string t345)) (fun _ hk => ⟨hk.1.1.1.1.1.1, ⟨hk.1.1.2, ⟨hk.1.1.1.1.1.2.1, ⟨hk.1.1.1.1.1.2.2, ⟨hk.1.1.1.1.2, hk.1.2⟩⟩⟩⟩⟩)⟩, ⟨by apply Kd.N_to; exact Kd.N_mono (Kd.N_far (p := ⟨gb347, 2, none⟩) (Kd.N_far (p := ⟨gb347, 1, none⟩) (Kd.N_far (p := ⟨gb347, 0, none⟩) (Kd.N_mono HO344.out (fun k_ hk => (⟨hk, hk.2⟩ : _ ∧ k_ ≠ gb347))) (fun _ hk => hk.2) (.int .u64 t341)) (fun _ hk => hk.2) (.slice Ao24 t342.length co24)) (fun _ hk => hk.2) (.string t345)) (fun _ hk => ⟨hk.1.1.1, ⟨hk.1.1.2.1, ⟨hk.1.1.2.2.1, ⟨hk.1.1.2.2.2.1, ⟨hk.1.1.2.2.2.2, hk.1.2⟩⟩⟩⟩⟩)⟩, ⟨by refine bT ?_; refine bR ?_ NB329_347.out _; refine bT ?_; refine bR ?_ NB329_347.out _; refine bT ?_; refine bR ?_ NB329_347.out _; refine bT ?_; exact BK329.out⟩, ⟨by refine bT ?_; refine bR ?_ NB330_347.out _; refine bT ?_; refine bR ?_ NB330_347.out _; refine bT ?_; refine bR ?_ NB330_347.out _; refine bT ?_; exact BK330.out⟩, ⟨by refine bT ?_; refine bR ?_ NB337_347.out _; refine bT ?_; refine bR ?_ NB337_347.out _; refine bT ?_; refine bR ?_ NB337_347.out _; refine bT ?_; exact BK337.out⟩, ⟨by refine bT ?_; refine bU (cs := #[.int .u64 t341, .slice Ao24 t342.length co24, .string (⟨#[]⟩ : ByteArray)]) ?_ 2 _ rfl; refine bT ?_; refine bU (cs := #[.int .u64 t341, .slice none 0 0, .string (⟨#[]⟩ : ByteArray)]) ?_ 1 _ rfl; refine bT ?_; refine bU (cs := #[.int .u64 0, .slice none 0 0, .string (⟨#[]⟩ : ByteArray)]) ?_ 0 _ rfl; refine bT ?_; exact BK347.out⟩, ⟨bA⟩⟩
 case rest =>
  clear HC7
  try clear c1
  try clear c2
  try clear p2
  try clear c3
  try clear c4
  try clear c6
  try clear c12
  try clear c13
  try clear c20
  try clear c21
  try clear c22
  try clear c25
  try clear c25b0
  try clear c25b1
  try clear c27
  try clear c28
  try clear c29
  try clear c31
  try clear c32
  try clear c34
  try clear hcz14_0
  try clear hcz14_1
  try clear hcz14_2
  try clear hcz23_0
  try clear hcz23_1
  try clear hcz23_2
  try clear hcz30_0
  try clear hcz30_1
  try clear hcz30_2
  try clear hcz33_0
  try clear hcz33_1
  try clear hcz33_2
  try clear hfz14_0
  try clear hfz14_1
  try clear hfz14_2
  try clear hfz23_0
  try clear hfz23_1
  try clear hfz23_2
  try clear hfz30_0
  try clear hfz30_1
  try clear hfz30_2
  try clear hfz33_0
  try clear hfz33_1
  try clear hfz33_2
  obtain ⟨kq, x39_6, rfl, HA, HJ6, HO_338001, HO_348001, BK329, BK330, BK337, BK347, HB⟩ := hcut
  cases kq with
  | zero => exact absurd HA.out (by simp [l13_built.j0])
  | succ kj6 =>
   have H := HA.out
   clear HA
   simp only [l13_built.j0] at H
   by_cases c35 : x39_6 = true
   ·subst c35
    have H1 : (none) = some (r1, r2, r3, r4, r5, r6, r7) := by rw [if_pos rfl] at H; exact H
    clear H
    have H := H1
    clear H1
    exact absurd H (by simp)
   ·replace c35 := Bool.eq_false_iff.mpr c35
    subst c35
    have H1 : (l13_built.l0 kj6 l2 0 t331 t332 t335 t341 t342 t345) = some (r1, r2, r3, r4, r5, r6, r7) := by rw [if_neg (show ¬ (false = true) by decide)] at H; exact H
    clear H
    have H := H1
    clear H1
    have H' := Ax.mk H
    clear H
    go_wp2
    go_loopg [13] kj6 (fun kq v13 w' => ∃ (x13_2 : Int) (x330000_2 : Int) (x330002_2 : ByteArray) (x331000_2 : Int) (x331002_2 : ByteArray) (x338000_2 : Int) (x338001_2 : List (S44)) (x338002_2 : ByteArray) (x348000_2 : Int) (x348001_2 : List (S46)) (x348002_2 : ByteArray) (u338001 : Value) (u348001 : Value), v13 = .int .i64 x13_2 ∧ Ax (l13_built.l0 kq l2 x13_2 x338000_2 x338001_2 x338002_2 x348000_2 x348001_2 x348002_2 = some (r1, r2, r3, r4, r5, r6, r7)) ∧ Ax (kq ≤ kj6) ∧ Ax (Kd.N k44 44 w' w.heap.size (fun k_ => (w.heap.size ≤ k_) ∧ some k_ ≠ (u348001 : Value).ownBlock ∧ k_ ≠ gb329 ∧ k_ ≠ gb330 ∧ k_ ≠ gb337 ∧ k_ ≠ gb347) u338001 x338001_2) ∧ Ax (Kd.N k46 46 w' w.heap.size (fun k_ => (w.heap.size ≤ k_) ∧ some k_ ≠ (u338001 : Value).ownBlock ∧ k_ ≠ gb329 ∧ k_ ≠ gb330 ∧ k_ ≠ gb337 ∧ k_ ≠ gb347) u348001 x348001_2) ∧ Ax (w'.heap[gb329]? = some (.cells #[.int .u64 x330000_2, (.slice none 0 0), .string x330002_2] 66 (0, 0))) ∧ Ax (w'.heap[gb330]? = some (.cells #[.int .u64 x331000_2, (.slice none 0 0), .string x331002_2] 68 (0, 0))) ∧ Ax (w'.heap[gb337]? = some (.cells #[.int .u64 x338000_2, u338001, .string x338002_2] 66 (0, 0))) ∧ Ax (w'.heap[gb347]? = some (.cells #[.int .u64 x348000_2, u348001, .string x348002_2] 68 (0, 0))) ∧ Ax (Below w.heap.size w w'))
    case atStart => exact ⟨(0), (0), ((⟨#[]⟩ : ByteArray)), (0), ((⟨#[]⟩ : ByteArray)), (t331), (t332), (t335), (t341), (t342), (t345), (.slice Ao15 t332.length co15), (.slice Ao24 t342.length co24), (by first | rfl | (simp; done) | (simp [*]; done)), H', ⟨Nat.le_refl _⟩, ⟨by apply Kd.N_to; exact HO_338001.out⟩, ⟨by apply Kd.N_to; exact HO_348001.out⟩, ⟨by refine bT ?_; exact BK329.out⟩, ⟨by refine bT ?_; exact BK330.out⟩, ⟨by refine bT ?_; exact BK337.out⟩, ⟨by refine bT ?_; exact BK347.out⟩, ⟨bA⟩⟩
    case round =>
     clear H'
     try clear c1
     try clear c2
     try clear p2
     try clear c3
     try clear c4
     try clear c6
     try clear c12
     try clear c13
     try clear c20
     try clear c21
     try clear c22
     try clear c25
     try clear c25b0
     try clear c25b1
     try clear c27
     try clear c28
     try clear c29
     try clear c31
     try clear c32
     try clear c34
     try clear c35
     try clear hcz14_0
     try clear hcz14_1
     try clear hcz14_2
     try clear hcz23_0
     try clear hcz23_1
     try clear hcz23_2
     try clear hcz30_0
     try clear hcz30_1
     try clear hcz30_2
     try clear hcz33_0
     try clear hcz33_1
     try clear hcz33_2
     try clear hfz14_0
     try clear hfz14_1
     try clear hfz14_2
     try clear hfz23_0
     try clear hfz23_1
     try clear hfz23_2
     try clear hfz30_0
     try clear hfz30_1
     try clear hfz30_2
     try clear hfz33_0
     try clear hfz33_1
     try clear hfz33_2
     try clear p2
     obtain ⟨x13_2, x330000_2, x330002_2, x331000_2, x331002_2, x338000_2, x338001_2, x338002_2, x348000_2, x348001_2, x348002_2, u338001, u348001, rfl, HA, HK2, HO_338001, HO_348001, BK329, BK330, BK337, BK347, HB⟩ := hrel
     cases gk with
     | zero => exact absurd HA.out (by simp [l13_built.l0])
     | succ k2 =>
      have H := HA.out
      clear HA
      simp only [l13_built.l0] at H
      by_cases c36 : x13_2 < (l2.length : Int)
      ·rw [if_pos c36] at H
       have c36b0 : decide (x13_2 < (l2.length : Int)) = true := decide_eq_true c36
       clear c36
       by_cases c37 : 0 ≤ x13_2
       ·rw [if_pos c37] at H
        have c37b0 : decide (0 ≤ x13_2) = true := decide_eq_true c37
        clear c37
        replace H := Option.bind_eq_some_iff.mp H
        obtain ⟨⟨t350, t351, t354, t355⟩, A380, H⟩ := H
        replace H : ((l13_steps.f k2 (rd_L4 l2 x13_2)).bind fun t358 => ((r13_Add.f k2 x348000_2 x348001_2 x348002_2 t358).bind fun bt361 => (if t355 = bt361.2.2.2 then ((l13_same.f k2 t350 t351 t354 bt361.1 bt361.2.1 bt361.2.2.1).bind fun t368 => (l13_built.j2 k2 l2 x13_2 t355 (!t368) x338000_2 x338001_2 x338002_2 x348000_2 x348001_2 x348002_2 t350 t351 t354 bt361.1 bt361.2.1 bt361.2.2.1)) else (l13_built.j2 k2 l2 x13_2 t355 true x338000_2 x338001_2 x338002_2 x348000_2 x348001_2 x348002_2 t350 t351 t354 bt361.1 bt361.2.1 bt361.2.2.1)))) = some (r1, r2, r3, r4, r5, r6, r7) := H
        have A38 := Ax.mk A380
        clear A380
        replace H := Option.bind_eq_some_iff.mp H
        obtain ⟨t358, A390, H⟩ := H
        replace H : ((r13_Add.f k2 x348000_2 x348001_2 x348002_2 t358).bind fun bt361 => (if t355 = bt361.2.2.2 then ((l13_same.f k2 t350 t351 t354 bt361.1 bt361.2.1 bt361.2.2.1).bind fun t368 => (l13_built.j2 k2 l2 x13_2 t355 (!t368) x338000_2 x338001_2 x338002_2 x348000_2 x348001_2 x348002_2 t350 t351 t354 bt361.1 bt361.2.1 bt361.2.2.1)) else (l13_built.j2 k2 l2 x13_2 t355 true x338000_2 x338001_2 x338002_2 x348000_2 x348001_2 x348002_2 t350 t351 t354 bt361.1 bt361.2.1 bt361.2.2.1))) = some (r1, r2, r3, r4, r5, r6, r7) := H
        have A39 := Ax.mk A390
        clear A390
        replace H := Option.bind_eq_some_iff.mp H
        obtain ⟨⟨t361, t362, t365, t366⟩, A400, H⟩ := H
        replace H : (if t355 = t366 then ((l13_same.f k2 t350 t351 t354 t361 t362 t365).bind fun t368 => (l13_built.j2 k2 l2 x13_2 t355 (!t368) x338000_2 x338001_2 x338002_2 x348000_2 x348001_2 x348002_2 t350 t351 t354 t361 t362 t365)) else (l13_built.j2 k2 l2 x13_2 t355 true x338000_2 x338001_2 x338002_2 x348000_2 x348001_2 x348002_2 t350 t351 t354 t361 t362 t365)) = some (r1, r2, r3, r4, r5, r6, r7) := H
        have A40 := Ax.mk A400
        clear A400
        have HC41 := Ax.mk H
        clear H
        obtain ⟨Ao42, co42, eo42⟩ := Kd.N_slice HO_338001.out
        subst eo42
        try go_wp2
        have n0_ := Ax.mk (Kd.N_drew HO_338001.out)
        have n1_ := Ax.mk (Kd.N_drew HO_348001.out)
        have n2_ := Ax.mk (blk_drew BK329.out)
        have n3_ := Ax.mk (blk_drew BK330.out)
        have n4_ := Ax.mk (blk_drew BK337.out)
        have n5_ := Ax.mk (blk_drew BK347.out)
        have n6_ := Ax.mk (below_drew1 HB.out)
        clear HO_338001
        clear HO_348001
        clear BK329
        clear BK330
        clear BK337
        clear BK347
        clear HB
        have HO_338001 := n0_
        have HO_348001 := n1_
        have BK329 := n2_
        have BK330 := n3_
        have BK337 := n4_
        have BK347 := n5_
        have HB := n6_
        clear n0_ n1_ n2_ n3_ n4_ n5_ n6_
        have p349 : 0 ≤ (x13_2 : Int) := of_decide_eq_true (by first | (with_reducible assumption) | assumption)
        have q349 : x13_2 < (l2.length : Int) := of_decide_eq_true (by first | (with_reducible assumption) | assumption)
        obtain ⟨ad349, A349_0, c349_0, e349, hx349_0, hl349_0, hi349_0⟩ := at_L4 HR2.out x13_2 p349 q349
        have hw349_0 := hx349_0
        cases e349
        replace hx349_0 := (HB.out.cell (World.block_lt_of_cell? w _ hx349_0)).trans hx349_0
        have HR349_0 := Ax.mk hi349_0
        have HC349_0 := Ax.mk hl349_0
        clear hi349_0 hl349_0
        replace p349 := eq_true p349
        replace q349 := eq_true q349
        refine start_ (n := 12) (S := fun w' => w'.cell? ⟨gb337, 0, none⟩ = some (.int .u64 x338000_2) ∧ w'.cell? ⟨gb337, 1, none⟩ = some (.slice Ao42 x338001_2.length co42) ∧ w'.cell? ⟨gb337, 2, none⟩ = some (.string x338002_2) ∧ w'.cell? (ad349.add (x13_2).toNat) = some (.slice A349_0 (rd_L4 l2 x13_2).length c349_0)) (ds := []) #[false, false, false, false, false, false, false, false, false, false, false, false] (by kernel_rfl) rfl rfl ⟨(bC BK337.out 0).trans rfl, (bC BK337.out 1).trans rfl, (bC BK337.out 2).trans rfl, ((HB.out.cell (World.block_lt_of_cell? w _ hw349_0)).trans hw349_0)⟩ (fun hHeld => ?_); refine with_tabW l13_built.tab8 l13_built.bits8 (fun HT_ HW_ => ?_)
        generalize wr.drew = w43 at HO_338001 HO_348001 BK329 BK330 BK337 BK347 HB HR349_0 hx349_0 hHeld ⊢
        refine pure_ (i := 1) (N := some 50) (v := ?_) (a' := ?_) #[false, true, false, false, false, false, false, false, false, false, false, false] rfl rfl (any_of HT_.out (by kernel_rfl)) (fun _ _ _ h => h) (Or.inl ⟨by rfl, ?_⟩) ?_ ?_
        rotate_left
        ·intro w'
         go_simp
         with_reducible rfl
        rotate_left
        ·simp only [Act.put, setIfInBounds_toArray, set_cons_zero, set_cons_succ, i64_w, i32_w]
         rfl
        refine pure_ (i := 2) (N := some 51) (v := ?_) (a' := ?_) #[false, true, true, false, false, false, false, false, false, false, false, false] rfl rfl (any_of HT_.out (by kernel_rfl)) (fun _ _ _ h => h) (Or.inl ⟨by rfl, ?_⟩) ?_ ?_
        rotate_left
        ·intro w'
         go_simp
         with_reducible rfl
        rotate_left
        ·simp only [Act.put, setIfInBounds_toArray, set_cons_zero, set_cons_succ, i64_w, i32_w]
         rfl
        refine pure_ (i := 3) (N := some 52) (v := ?_) (a' := ?_) #[false, true, true, true, false, false, false, false, false, false, false, false] rfl rfl (any_of HT_.out (by kernel_rfl)) (fun _ _ _ h => h) (Or.inl ⟨by rfl, ?_⟩) ?_ ?_
        rotate_left
        ·intro w'
         go_simp
         with_reducible rfl
        rotate_left
        ·simp only [Act.put, setIfInBounds_toArray, set_cons_zero, set_cons_succ, i64_w, i32_w]
         rfl
        refine take_ (i := 0) (N := some 49) (v := ?_) (a' := ?_) #[true, true, true, true, false, false, false, false, false, false, false, false] rfl rfl (take_ofW HT_.out HW_.out (by kernel_rfl)) (fun _ _ _ h => h) (Or.inl ⟨by rfl, ?_⟩) hHeld ?_ ?_
        rotate_left
        ·rintro w' ⟨s0, s1, s2, s3⟩
         go_simp
         with_reducible rfl
        rotate_left
        ·simp only [Act.put, setIfInBounds_toArray, set_cons_zero, set_cons_succ, i64_w, i32_w]
         rfl
        refine take_ (i := 4) (N := some 53) (v := ?_) (a' := ?_) #[true, true, true, true, true, false, false, false, false, false, false, false] rfl rfl (take_ofW HT_.out HW_.out (by kernel_rfl)) (fun _ _ _ h => h) (Or.inl ⟨by rfl, ?_⟩) hHeld ?_ ?_
        rotate_left
        ·rintro w' ⟨s0, s1, s2, s3⟩
         go_simp
         with_reducible rfl
        rotate_left
        ·simp only [Act.put, setIfInBounds_toArray, set_cons_zero, set_cons_succ, i64_w, i32_w]
         rfl
        refine join_ (σ := Value × Nat) 2 #[true, true, true, true, true, true, true, true, true, true, false, false] (fun s_ => [(54, .tuple #[.agg #[.int .u64 t350, s_.1, .string t354], .int .i64 t355]), (14, .pointer (some ⟨s_.2, 0, none⟩)), (48, .tuple #[.agg #[.int .u64 t350, s_.1, .string t354], .int .i64 t355]), (55, .agg #[.int .u64 t350, s_.1, .string t354]), (56, .int .i64 t355)]) (fun s_ w' => (w'.cell? ⟨gb337, 0, none⟩ = some (.int .u64 x338000_2) ∧ w'.cell? ⟨gb337, 1, none⟩ = some (.slice Ao42 x338001_2.length co42) ∧ w'.cell? ⟨gb337, 2, none⟩ = some (.string x338002_2) ∧ w'.cell? (ad349.add (x13_2).toNat) = some (.slice A349_0 (rd_L4 l2 x13_2).length c349_0)) ∧ (Kd.N k44 44 w' w.heap.size (fun k_ => (w.heap.size ≤ k_) ∧ some k_ ≠ (u348001 : Value).ownBlock ∧ k_ ≠ gb329 ∧ k_ ≠ gb330 ∧ k_ ≠ gb337 ∧ k_ ≠ gb347 ∧ k_ ≠ s_.2) s_.1 t351) ∧ (Kd.N k44 44 w' w.heap.size (fun k_ => (w.heap.size ≤ k_) ∧ some k_ ≠ (s_.1 : Value).ownBlock ∧ some k_ ≠ (u348001 : Value).ownBlock ∧ k_ ≠ gb329 ∧ k_ ≠ gb330 ∧ k_ ≠ gb337 ∧ k_ ≠ gb347 ∧ k_ ≠ s_.2) (.slice Ao42 x338001_2.length co42) x338001_2) ∧ (Kd.N k46 46 w' w.heap.size (fun k_ => (w.heap.size ≤ k_) ∧ some k_ ≠ (s_.1 : Value).ownBlock ∧ some k_ ≠ (.slice Ao42 x338001_2.length co42 : Value).ownBlock ∧ k_ ≠ gb329 ∧ k_ ≠ gb330 ∧ k_ ≠ gb337 ∧ k_ ≠ gb347 ∧ k_ ≠ s_.2) u348001 x348001_2) ∧ (w'.heap[gb329]? = some (.cells #[.int .u64 x330000_2, .slice none 0 0, .string x330002_2] 66 (0, 0))) ∧ (w'.heap[gb330]? = some (.cells #[.int .u64 x331000_2, .slice none 0 0, .string x331002_2] 68 (0, 0))) ∧ (w'.heap[gb337]? = some (.cells #[.int .u64 x338000_2, .slice Ao42 x338001_2.length co42, .string x338002_2] 66 (0, 0))) ∧ (w'.heap[gb347]? = some (.cells #[.int .u64 x348000_2, u348001, .string x348002_2] 68 (0, 0))) ∧ (w'.heap[s_.2]? = some (.cells #[.int .u64 0, .slice none 0 0, .string (⟨#[]⟩ : ByteArray)] 66 (0, 0))) ∧ (w.heap.size ≤ s_.2) ∧ (w.heap.size ≤ s_.2) ∧ (gb329 ≠ s_.2) ∧ (s_.2 ≠ gb329) ∧ (gb330 ≠ s_.2) ∧ (s_.2 ≠ gb330) ∧ (gb337 ≠ s_.2) ∧ (s_.2 ≠ gb337) ∧ (gb347 ≠ s_.2) ∧ (s_.2 ≠ gb347) ∧ (Below w.heap.size w w')) ?_ ?_
        rotate_left
        ·intro hCont
         refine two_ (i := 5) (j := 9) (Ni := some 54) (Nj := some 14) #[true, true, true, true, true, true, false, false, false, false, false, false] #[true, true, true, true, true, false, false, false, false, true, false, false] rfl rfl rfl rfl (two_of HT_.out (by kernel_rfl)) (by decide) (by decide) (fun K hK => ?_) (fun K hK => ?_)
         ·skip
          refine goes_ Tryd.func39 (by kernel_rfl) rfl #[.agg #[.int .u64 x338000_2, .slice Ao42 x338001_2.length co42, .string x338002_2], .slice A349_0 (rd_L4 l2 x13_2).length c349_0] (by rfl) rfl rfl (by (try simp only [List.map_toArray, List.map_cons, List.map_nil]); first | done | rfl | (simp only [List.length_drop, List.length_take]; rfl) | (rw [wrap_sum2 (by assumption)]; rfl)) ?_
          with_reducible refine (journal_Add.calls k2 x338000_2 (fun k_ => ((w.heap.size ≤ k_) ∧ (some k_ ≠ (u348001 : Value).ownBlock ∧ (k_ ≠ gb329 ∧ (k_ ≠ gb330 ∧ (k_ ≠ gb337 ∧ k_ ≠ gb347)))))) _ _ x338001_2 x338002_2 _ _ (rd_L4 l2 x13_2) t350 t351 t354 t355 _ ?side1 ?side2 ?side3 A38.out (HT.below bA)).mono ?_
          (case side1 => exact Kd.N_V (HO_338001.out))
          (case side2 => repeat (first | exact (Kd.C_below HR349_0.out HB.out) | (with_reducible refine Kd.C_alloc ?_ _) | (with_reducible refine Kd.C_drewN ?_ _) | (with_reducible refine Kd.C_drew ?_)))
          (case side3 => exact HC349_0.out)
          rintro e w44 ⟨v352, rfl, ho0, hb⟩
          refine ⟨_, rfl, ?_⟩
          have n0_ := Ax.mk (Kd.N_elder' (by exact Kd.N_to HO_338001.out) (Kd.N_base ho0) hb)
          have n1_ := Ax.mk (Kd.N_elder' (by exact Kd.N_to HO_348001.out) (Kd.N_base ho0) hb)
          have n2_ := Ax.mk (Kd.N_lower (Kd.N_mono (ok' := fun k_ => (w.heap.size ≤ k_) ∧ some k_ ≠ (u348001 : Value).ownBlock ∧ k_ ≠ gb329 ∧ k_ ≠ gb330 ∧ k_ ≠ gb337 ∧ k_ ≠ gb347) ho0 (fun k_ hk_ => ⟨Or.elim hk_ (fun hs_ => hs_.1) (fun hn_ => (Nat.le_trans (bS bA) hn_)), Or.elim hk_ (fun hs_ => hs_.2.1) (fun hn_ => (Kd.fresh' (Kd.N_lt (by exact Kd.N_to HO_348001.out)) k_ hn_)), Or.elim hk_ (fun hs_ => hs_.2.2.1) (fun hn_ => (Kd.freshB (g := gb329) (o := .cells #[.int .u64 x330000_2, .slice none 0 0, .string x330002_2] 66 (0, 0)) (bT BK329.out) k_ hn_)), Or.elim hk_ (fun hs_ => hs_.2.2.2.1) (fun hn_ => (Kd.freshB (g := gb330) (o := .cells #[.int .u64 x331000_2, .slice none 0 0, .string x331002_2] 68 (0, 0)) (bT BK330.out) k_ hn_)), Or.elim hk_ (fun hs_ => hs_.2.2.2.2.1) (fun hn_ => (Kd.freshB (g := gb337) (o := .cells #[.int .u64 x338000_2, .slice Ao42 x338001_2.length co42, .string x338002_2] 66 (0, 0)) (bT BK337.out) k_ hn_)), Or.elim hk_ (fun hs_ => hs_.2.2.2.2.2) (fun hn_ => (Kd.freshB (g := gb347) (o := .cells #[.int .u64 x348000_2, u348001, .string x348002_2] 68 (0, 0)) (bT BK347.out) k_ hn_))⟩)) (bS bA))
          have n3_ := Ax.mk (bB (bT BK329.out) hb)
          have n4_ := Ax.mk (bB (bT BK330.out) hb)
          have n5_ := Ax.mk (bB (bT BK337.out) hb)
          have n6_ := Ax.mk (bB (bT BK347.out) hb)
          have n7_ := Ax.mk (bP bA hb)
          clear HO_338001
          clear HO_348001
          clear BK329
          clear BK330
          clear BK337
          clear BK347
          clear HB
          have HO_338001 := n0_
          have HO_348001 := n1_
          have HO353 := n2_
          have BK329 := n3_
          have BK330 := n4_
          have BK337 := n5_
          have BK347 := n6_
          have HB := n7_
          clear n0_ n1_ n2_ n3_ n4_ n5_ n6_ n7_
          (try clear hb)
          (try clear hb2)
          (try clear hk)
          (try clear hi)
          (try clear ho0)
          refine hK.out _ _ ⟨(bC BK337.out 0).trans rfl, (bC BK337.out 1).trans rfl, (bC BK337.out 2).trans rfl, ((HB.out.cell (World.block_lt_of_cell? w _ hw349_0)).trans hw349_0)⟩ (fun hHeld => ?_)
          clear hK K
          refine norm_ (a' := ?_) ?_ ?_
          rotate_left
          ·show Act.put _ (some 54) _ = _
           simp only [Act.put, setIfInBounds_toArray, set_cons_zero, set_cons_succ, i64_w, i32_w]
           rfl
          refine pure_ (i := 6) (N := some 48) (v := ?_) (a' := ?_) #[true, true, true, true, true, true, true, false, false, false, false, false] rfl rfl (any_of HT_.out (by kernel_rfl)) (fun _ _ _ h => h) (Or.inl ⟨by rfl, ?_⟩) ?_ ?_
          rotate_left
          ·intro w'
           go_simp
           with_reducible rfl
          rotate_left
          ·simp only [Act.put, setIfInBounds_toArray, set_cons_zero, set_cons_succ, i64_w, i32_w]
           rfl
          refine pure_ (i := 7) (N := some 55) (v := ?_) (a' := ?_) #[true, true, true, true, true, true, true, true, false, false, false, false] rfl rfl (any_of HT_.out (by kernel_rfl)) (fun _ _ _ h => h) (Or.inl ⟨by rfl, ?_⟩) ?_ ?_
          rotate_left
          ·intro w'
           go_simp
           with_reducible rfl
          rotate_left
          ·simp only [Act.put, setIfInBounds_toArray, set_cons_zero, set_cons_succ, i64_w, i32_w]
           rfl
          refine pure_ (i := 8) (N := some 56) (v := ?_) (a' := ?_) #[true, true, true, true, true, true, true, true, true, false, false, false] rfl rfl (any_of HT_.out (by kernel_rfl)) (fun _ _ _ h => h) (Or.inl ⟨by rfl, ?_⟩) ?_ ?_
          rotate_left
          ·intro w'
           go_simp
           with_reducible rfl
          rotate_left
          ·simp only [Act.put, setIfInBounds_toArray, set_cons_zero, set_cons_succ, i64_w, i32_w]
           rfl
          refine one_ (i := 9) (N := some 14) #[true, true, true, true, true, true, true, true, true, true, false, false] rfl rfl (one_of HT_.out (by kernel_rfl)) (by decide) (fun K hK => ?_)
          refine box_step ?hg (N := 14) ?hd (cs := #[.int .u64 0, .slice none 0 0, .string (⟨#[]⟩ : ByteArray)]) (t := 66) ?hr ?_; (case hd => rfl); (case hg => rfl); (case hr => first | (go_simp; done) | (go_simp; rfl))
          intro gb356 hg w45 hbox hb
          have n0_ := Ax.mk (Kd.N_below (Kd.N_elderB (by exact Kd.N_to HO_338001.out) gb356 (Nat.le_of_eq hg.symm)) hb)
          have n1_ := Ax.mk (Kd.N_below (Kd.N_elderB (by exact Kd.N_to HO_348001.out) gb356 (Nat.le_of_eq hg.symm)) hb)
          have n2_ := Ax.mk (Kd.N_below (Kd.N_elderB (by exact Kd.N_to HO353.out) gb356 (Nat.le_of_eq hg.symm)) hb)
          have n3_ := Ax.mk (bB (bT BK329.out) hb)
          have n4_ := Ax.mk (bB (bT BK330.out) hb)
          have n5_ := Ax.mk (bB (bT BK337.out) hb)
          have n6_ := Ax.mk (bB (bT BK347.out) hb)
          have n7_ := Ax.mk (bP bA hb)
          have n8_ := Ax.mk (hbox)
          have n9_ := Ax.mk ((ge_new hg : w.heap.size ≤ gb356))
          have n10_ := Ax.mk ((ge_new hg : w.heap.size ≤ gb356))
          have n11_ := Ax.mk ((ne_lt hg BK329.out : gb329 ≠ gb356))
          have n12_ := Ax.mk ((ne_gt hg BK329.out : gb356 ≠ gb329))
          have n13_ := Ax.mk ((ne_lt hg BK330.out : gb330 ≠ gb356))
          have n14_ := Ax.mk ((ne_gt hg BK330.out : gb356 ≠ gb330))
          have n15_ := Ax.mk ((ne_lt hg BK337.out : gb337 ≠ gb356))
          have n16_ := Ax.mk ((ne_gt hg BK337.out : gb356 ≠ gb337))
          have n17_ := Ax.mk ((ne_lt hg BK347.out : gb347 ≠ gb356))
          have n18_ := Ax.mk ((ne_gt hg BK347.out : gb356 ≠ gb347))
          clear HO_338001
          clear HO_348001
          clear HO353
          clear BK329
          clear BK330
          clear BK337
          clear BK347
          clear HB
          have HO_338001 := n0_
          have HO_348001 := n1_
          have HO353 := n2_
          have BK329 := n3_
          have BK330 := n4_
          have BK337 := n5_
          have BK347 := n6_
          have HB := n7_
          have BK356 := n8_
          have GW356 := n9_
          have GE356 := n10_
          have NB329_356 := n11_
          have NB356_329 := n12_
          have NB330_356 := n13_
          have NB356_330 := n14_
          have NB337_356 := n15_
          have NB356_337 := n16_
          have NB347_356 := n17_
          have NB356_347 := n18_
          clear n0_ n1_ n2_ n3_ n4_ n5_ n6_ n7_ n8_ n9_ n10_ n11_ n12_ n13_ n14_ n15_ n16_ n17_ n18_
          clear hb hbox hg
          refine hK.out _ _ ⟨(bC BK337.out 0).trans rfl, (bC BK337.out 1).trans rfl, (bC BK337.out 2).trans rfl, ((HB.out.cell (World.block_lt_of_cell? w _ hw349_0)).trans hw349_0)⟩ (fun hHeld => ?_)
          clear hK K
          refine norm_ (a' := ?_) ?_ ?_
          rotate_left
          ·show Act.put _ (some 14) _ = _
           simp only [Act.put, setIfInBounds_toArray, set_cons_zero, set_cons_succ, i64_w, i32_w]
           rfl
          exact norm_ (by simp only [putAll, Act.put, List.setIfInBounds_toArray, List.set_cons_zero, List.set_cons_succ]) (hCont (v352, gb356) _ ⟨hHeld, (by apply Kd.N_to; exact Kd.N_mono HO353.out (fun _ hk => ⟨hk.1.1, ⟨hk.1.2.1, ⟨hk.1.2.2.1, ⟨hk.1.2.2.2.1, ⟨hk.1.2.2.2.2.1, ⟨hk.1.2.2.2.2.2, hk.2⟩⟩⟩⟩⟩⟩)), (by apply Kd.N_to; exact Kd.N_mono HO_338001.out (fun _ hk => ⟨hk.1.1.1, ⟨hk.1.2, ⟨hk.1.1.2.1, ⟨hk.1.1.2.2.1, ⟨hk.1.1.2.2.2.1, ⟨hk.1.1.2.2.2.2.1, ⟨hk.1.1.2.2.2.2.2, hk.2⟩⟩⟩⟩⟩⟩⟩)), (by apply Kd.N_to; exact Kd.N_mono HO_348001.out (fun _ hk => ⟨hk.1.1.1, ⟨hk.1.2, ⟨hk.1.1.2.1, ⟨hk.1.1.2.2.1, ⟨hk.1.1.2.2.2.1, ⟨hk.1.1.2.2.2.2.1, ⟨hk.1.1.2.2.2.2.2, hk.2⟩⟩⟩⟩⟩⟩⟩)), (bT BK329.out), (bT BK330.out), (bT BK337.out), (bT BK347.out), (bT BK356.out), GW356.out, GE356.out, NB329_356.out, NB356_329.out, NB330_356.out, NB356_330.out, NB337_356.out, NB356_337.out, NB347_356.out, NB356_347.out, bA⟩)
         ·skip
          refine box_step ?hg (N := 14) ?hd (cs := #[.int .u64 0, .slice none 0 0, .string (⟨#[]⟩ : ByteArray)]) (t := 66) ?hr ?_; (case hd => rfl); (case hg => rfl); (case hr => first | (go_simp; done) | (go_simp; rfl))
          intro gb356 hg w44 hbox hb
          have n0_ := Ax.mk (Kd.N_below (Kd.N_elderB (by exact Kd.N_to HO_338001.out) gb356 (Nat.le_of_eq hg.symm)) hb)
          have n1_ := Ax.mk (Kd.N_below (Kd.N_elderB (by exact Kd.N_to HO_348001.out) gb356 (Nat.le_of_eq hg.symm)) hb)
          have n2_ := Ax.mk (bB (bT BK329.out) hb)
          have n3_ := Ax.mk (bB (bT BK330.out) hb)
          have n4_ := Ax.mk (bB (bT BK337.out) hb)
          have n5_ := Ax.mk (bB (bT BK347.out) hb)
          have n6_ := Ax.mk (bP bA hb)
          have n7_ := Ax.mk (hbox)
          have n8_ := Ax.mk ((ge_new hg : w.heap.size ≤ gb356))
          have n9_ := Ax.mk ((ge_new hg : w.heap.size ≤ gb356))
          have n10_ := Ax.mk ((ne_lt hg BK329.out : gb329 ≠ gb356))
          have n11_ := Ax.mk ((ne_gt hg BK329.out : gb356 ≠ gb329))
          have n12_ := Ax.mk ((ne_lt hg BK330.out : gb330 ≠ gb356))
          have n13_ := Ax.mk ((ne_gt hg BK330.out : gb356 ≠ gb330))
          have n14_ := Ax.mk ((ne_lt hg BK337.out : gb337 ≠ gb356))
          have n15_ := Ax.mk ((ne_gt hg BK337.out : gb356 ≠ gb337))
          have n16_ := Ax.mk ((ne_lt hg BK347.out : gb347 ≠ gb356))
          have n17_ := Ax.mk ((ne_gt hg BK347.out : gb356 ≠ gb347))
          clear HO_338001
          clear HO_348001
          clear BK329
          clear BK330
          clear BK337
          clear BK347
          clear HB
          have HO_338001 := n0_
          have HO_348001 := n1_
          have BK329 := n2_
          have BK330 := n3_
          have BK337 := n4_
          have BK347 := n5_
          have HB := n6_
          have BK356 := n7_
          have GW356 := n8_
          have GE356 := n9_
          have NB329_356 := n10_
          have NB356_329 := n11_
          have NB330_356 := n12_
          have NB356_330 := n13_
          have NB337_356 := n14_
          have NB356_337 := n15_
          have NB347_356 := n16_
          have NB356_347 := n17_
          clear n0_ n1_ n2_ n3_ n4_ n5_ n6_ n7_ n8_ n9_ n10_ n11_ n12_ n13_ n14_ n15_ n16_ n17_
          clear hb hbox hg
          refine hK.out _ _ ⟨(bC BK337.out 0).trans rfl, (bC BK337.out 1).trans rfl, (bC BK337.out 2).trans rfl, ((HB.out.cell (World.block_lt_of_cell? w _ hw349_0)).trans hw349_0)⟩ (fun hHeld => ?_)
          clear hK K
          refine norm_ (a' := ?_) ?_ ?_
          rotate_left
          ·show Act.put _ (some 14) _ = _
           simp only [Act.put, setIfInBounds_toArray, set_cons_zero, set_cons_succ, i64_w, i32_w]
           rfl
          refine one_ (i := 5) (N := some 54) #[true, true, true, true, true, true, false, false, false, true, false, false] rfl rfl (one_of HT_.out (by kernel_rfl)) (by decide) (fun K hK => ?_)
          refine goes_ Tryd.func39 (by kernel_rfl) rfl #[.agg #[.int .u64 x338000_2, .slice Ao42 x338001_2.length co42, .string x338002_2], .slice A349_0 (rd_L4 l2 x13_2).length c349_0] (by rfl) rfl rfl (by (try simp only [List.map_toArray, List.map_cons, List.map_nil]); first | done | rfl | (simp only [List.length_drop, List.length_take]; rfl) | (rw [wrap_sum2 (by assumption)]; rfl)) ?_
          with_reducible refine (journal_Add.calls k2 x338000_2 (fun k_ => (((w.heap.size ≤ k_) ∧ (some k_ ≠ (u348001 : Value).ownBlock ∧ (k_ ≠ gb329 ∧ (k_ ≠ gb330 ∧ (k_ ≠ gb337 ∧ k_ ≠ gb347))))) ∧ k_ ≠ gb356)) _ _ x338001_2 x338002_2 _ _ (rd_L4 l2 x13_2) t350 t351 t354 t355 _ ?side1 ?side2 ?side3 A38.out (HT.below bA)).mono ?_
          (case side1 => exact Kd.N_V (HO_338001.out))
          (case side2 => repeat (first | exact (Kd.C_below HR349_0.out HB.out) | (with_reducible refine Kd.C_alloc ?_ _) | (with_reducible refine Kd.C_drewN ?_ _) | (with_reducible refine Kd.C_drew ?_)))
          (case side3 => exact HC349_0.out)
          rintro e w45 ⟨v352, rfl, ho0, hb⟩
          refine ⟨_, rfl, ?_⟩
          have n0_ := Ax.mk (Kd.N_elder' (by exact Kd.N_to HO_338001.out) (Kd.N_base ho0) hb)
          have n1_ := Ax.mk (Kd.N_elder' (by exact Kd.N_to HO_348001.out) (Kd.N_base ho0) hb)
          have n2_ := Ax.mk (Kd.N_lower (Kd.N_mono (ok' := fun k_ => (w.heap.size ≤ k_) ∧ some k_ ≠ (u348001 : Value).ownBlock ∧ k_ ≠ gb329 ∧ k_ ≠ gb330 ∧ k_ ≠ gb337 ∧ k_ ≠ gb347 ∧ k_ ≠ gb356) ho0 (fun k_ hk_ => ⟨Or.elim hk_ (fun hs_ => hs_.1.1) (fun hn_ => (Nat.le_trans (bS bA) hn_)), Or.elim hk_ (fun hs_ => hs_.1.2.1) (fun hn_ => (Kd.fresh' (Kd.N_lt (by exact Kd.N_to HO_348001.out)) k_ hn_)), Or.elim hk_ (fun hs_ => hs_.1.2.2.1) (fun hn_ => (Kd.freshB (g := gb329) (o := .cells #[.int .u64 x330000_2, .slice none 0 0, .string x330002_2] 66 (0, 0)) (bT BK329.out) k_ hn_)), Or.elim hk_ (fun hs_ => hs_.1.2.2.2.1) (fun hn_ => (Kd.freshB (g := gb330) (o := .cells #[.int .u64 x331000_2, .slice none 0 0, .string x331002_2] 68 (0, 0)) (bT BK330.out) k_ hn_)), Or.elim hk_ (fun hs_ => hs_.1.2.2.2.2.1) (fun hn_ => (Kd.freshB (g := gb337) (o := .cells #[.int .u64 x338000_2, .slice Ao42 x338001_2.length co42, .string x338002_2] 66 (0, 0)) (bT BK337.out) k_ hn_)), Or.elim hk_ (fun hs_ => hs_.1.2.2.2.2.2) (fun hn_ => (Kd.freshB (g := gb347) (o := .cells #[.int .u64 x348000_2, u348001, .string x348002_2] 68 (0, 0)) (bT BK347.out) k_ hn_)), Or.elim hk_ (fun hs_ => hs_.2) (fun hn_ => (Kd.freshB (g := gb356) (o := .cells #[.int .u64 0, .slice none 0 0, .string (⟨#[]⟩ : ByteArray)] 66 (0, 0)) (bT BK356.out) k_ hn_))⟩)) (bS bA))
          have n3_ := Ax.mk (bB (bT BK329.out) hb)
          have n4_ := Ax.mk (bB (bT BK330.out) hb)
          have n5_ := Ax.mk (bB (bT BK337.out) hb)
          have n6_ := Ax.mk (bB (bT BK347.out) hb)
          have n7_ := Ax.mk (bB (bT BK356.out) hb)
          have n8_ := Ax.mk (bP bA hb)
          clear HO_338001
          clear HO_348001
          clear BK329
          clear BK330
          clear BK337
          clear BK347
          clear BK356
          clear HB
          have HO_338001 := n0_
          have HO_348001 := n1_
          have HO353 := n2_
          have BK329 := n3_
          have BK330 := n4_
          have BK337 := n5_
          have BK347 := n6_
          have BK356 := n7_
          have HB := n8_
          clear n0_ n1_ n2_ n3_ n4_ n5_ n6_ n7_ n8_
          (try clear hb)
          (try clear hb2)
          (try clear hk)
          (try clear hi)
          (try clear ho0)
          refine hK.out _ _ ⟨(bC BK337.out 0).trans rfl, (bC BK337.out 1).trans rfl, (bC BK337.out 2).trans rfl, ((HB.out.cell (World.block_lt_of_cell? w _ hw349_0)).trans hw349_0)⟩ (fun hHeld => ?_)
          clear hK K
          refine norm_ (a' := ?_) ?_ ?_
          rotate_left
          ·show Act.put _ (some 54) _ = _
           simp only [Act.put, setIfInBounds_toArray, set_cons_zero, set_cons_succ, i64_w, i32_w]
           rfl
          refine pure_ (i := 6) (N := some 48) (v := ?_) (a' := ?_) #[true, true, true, true, true, true, true, false, false, true, false, false] rfl rfl (any_of HT_.out (by kernel_rfl)) (fun _ _ _ h => h) (Or.inl ⟨by rfl, ?_⟩) ?_ ?_
          rotate_left
          ·intro w'
           go_simp
           with_reducible rfl
          rotate_left
          ·simp only [Act.put, setIfInBounds_toArray, set_cons_zero, set_cons_succ, i64_w, i32_w]
           rfl
          refine pure_ (i := 7) (N := some 55) (v := ?_) (a' := ?_) #[true, true, true, true, true, true, true, true, false, true, false, false] rfl rfl (any_of HT_.out (by kernel_rfl)) (fun _ _ _ h => h) (Or.inl ⟨by rfl, ?_⟩) ?_ ?_
          rotate_left
          ·intro w'
           go_simp
           with_reducible rfl
          rotate_left
          ·simp only [Act.put, setIfInBounds_toArray, set_cons_zero, set_cons_succ, i64_w, i32_w]
           rfl
          refine pure_ (i := 8) (N := some 56) (v := ?_) (a' := ?_) #[true, true, true, true, true, true, true, true, true, true, false, false] rfl rfl (any_of HT_.out (by kernel_rfl)) (fun _ _ _ h => h) (Or.inl ⟨by rfl, ?_⟩) ?_ ?_
          rotate_left
          ·intro w'
           go_simp
           with_reducible rfl
          rotate_left
          ·simp only [Act.put, setIfInBounds_toArray, set_cons_zero, set_cons_succ, i64_w, i32_w]
           rfl
          exact norm_ (by simp only [putAll, Act.put, List.setIfInBounds_toArray, List.set_cons_zero, List.set_cons_succ]) (hCont (v352, gb356) _ ⟨hHeld, (by exact Kd.N_to HO353.out), (by apply Kd.N_to; exact Kd.N_mono HO_338001.out (fun _ hk => ⟨hk.1.1.1, ⟨hk.2, ⟨hk.1.1.2.1, ⟨hk.1.1.2.2.1, ⟨hk.1.1.2.2.2.1, ⟨hk.1.1.2.2.2.2.1, ⟨hk.1.1.2.2.2.2.2, hk.1.2⟩⟩⟩⟩⟩⟩⟩)), (by apply Kd.N_to; exact Kd.N_mono HO_348001.out (fun _ hk => ⟨hk.1.1.1, ⟨hk.2, ⟨hk.1.1.2.1, ⟨hk.1.1.2.2.1, ⟨hk.1.1.2.2.2.1, ⟨hk.1.1.2.2.2.2.1, ⟨hk.1.1.2.2.2.2.2, hk.1.2⟩⟩⟩⟩⟩⟩⟩)), (bT BK329.out), (bT BK330.out), (bT BK337.out), (bT BK347.out), (bT BK356.out), GW356.out, GE356.out, NB329_356.out, NB356_329.out, NB330_356.out, NB356_330.out, NB337_356.out, NB356_337.out, NB347_356.out, NB356_347.out, bA⟩)
        rintro ⟨v352, gb356⟩ w46 ⟨hS_, h0_, h1_, h2_, h3_, h4_, h5_, h6_, h7_, h8_, h9_, h10_, h11_, h12_, h13_, h14_, h15_, h16_, h17_, h18_⟩
        have n0_ : Ax (Kd.N k44 44 w46 w.heap.size (fun k_ => (w.heap.size ≤ k_) ∧ some k_ ≠ (u348001 : Value).ownBlock ∧ k_ ≠ gb329 ∧ k_ ≠ gb330 ∧ k_ ≠ gb337 ∧ k_ ≠ gb347 ∧ k_ ≠ gb356) v352 t351) := ⟨h0_⟩
        have n1_ : Ax (Kd.N k44 44 w46 w.heap.size (fun k_ => (w.heap.size ≤ k_) ∧ some k_ ≠ (v352 : Value).ownBlock ∧ some k_ ≠ (u348001 : Value).ownBlock ∧ k_ ≠ gb329 ∧ k_ ≠ gb330 ∧ k_ ≠ gb337 ∧ k_ ≠ gb347 ∧ k_ ≠ gb356) (.slice Ao42 x338001_2.length co42) x338001_2) := ⟨h1_⟩
        have n2_ : Ax (Kd.N k46 46 w46 w.heap.size (fun k_ => (w.heap.size ≤ k_) ∧ some k_ ≠ (v352 : Value).ownBlock ∧ some k_ ≠ (.slice Ao42 x338001_2.length co42 : Value).ownBlock ∧ k_ ≠ gb329 ∧ k_ ≠ gb330 ∧ k_ ≠ gb337 ∧ k_ ≠ gb347 ∧ k_ ≠ gb356) u348001 x348001_2) := ⟨h2_⟩
        have n3_ : Ax (w46.heap[gb329]? = some (.cells #[.int .u64 x330000_2, .slice none 0 0, .string x330002_2] 66 (0, 0))) := ⟨h3_⟩
        have n4_ : Ax (w46.heap[gb330]? = some (.cells #[.int .u64 x331000_2, .slice none 0 0, .string x331002_2] 68 (0, 0))) := ⟨h4_⟩
        have n5_ : Ax (w46.heap[gb337]? = some (.cells #[.int .u64 x338000_2, .slice Ao42 x338001_2.length co42, .string x338002_2] 66 (0, 0))) := ⟨h5_⟩
        have n6_ : Ax (w46.heap[gb347]? = some (.cells #[.int .u64 x348000_2, u348001, .string x348002_2] 68 (0, 0))) := ⟨h6_⟩
        have n7_ : Ax (w46.heap[gb356]? = some (.cells #[.int .u64 0, .slice none 0 0, .string (⟨#[]⟩ : ByteArray)] 66 (0, 0))) := ⟨h7_⟩
        have n8_ : Ax (w.heap.size ≤ gb356) := ⟨h8_⟩
        have n9_ : Ax (w.heap.size ≤ gb356) := ⟨h9_⟩
        have n10_ : Ax (gb329 ≠ gb356) := ⟨h10_⟩
        have n11_ : Ax (gb356 ≠ gb329) := ⟨h11_⟩
        have n12_ : Ax (gb330 ≠ gb356) := ⟨h12_⟩
        have n13_ : Ax (gb356 ≠ gb330) := ⟨h13_⟩
        have n14_ : Ax (gb337 ≠ gb356) := ⟨h14_⟩
        have n15_ : Ax (gb356 ≠ gb337) := ⟨h15_⟩
        have n16_ : Ax (gb347 ≠ gb356) := ⟨h16_⟩
        have n17_ : Ax (gb356 ≠ gb347) := ⟨h17_⟩
        have n18_ : Ax (Below w.heap.size w w46) := ⟨h18_⟩
        clear HO_338001
        clear HO_348001
        clear BK329
        clear BK330
        clear BK337
        clear BK347
        clear HB
        clear h0_ h1_ h2_ h3_ h4_ h5_ h6_ h7_ h8_ h9_ h10_ h11_ h12_ h13_ h14_ h15_ h16_ h17_ h18_
        have HO353 := n0_
        have HO_338001 := n1_
        have HO_348001 := n2_
        have BK329 := n3_
        have BK330 := n4_
        have BK337 := n5_
        have BK347 := n6_
        have BK356 := n7_
        have GW356 := n8_
        have GE356 := n9_
        have NB329_356 := n10_
        have NB356_329 := n11_
        have NB330_356 := n12_
        have NB356_330 := n13_
        have NB337_356 := n14_
        have NB356_337 := n15_
        have NB347_356 := n16_
        have NB356_347 := n17_
        have HB := n18_
        clear n0_ n1_ n2_ n3_ n4_ n5_ n6_ n7_ n8_ n9_ n10_ n11_ n12_ n13_ n14_ n15_ n16_ n17_ n18_
        have hHeld : w46.cell? ⟨gb337, 0, none⟩ = some (.int .u64 x338000_2) ∧ w46.cell? ⟨gb337, 1, none⟩ = some (.slice Ao42 x338001_2.length co42) ∧ w46.cell? ⟨gb337, 2, none⟩ = some (.string x338002_2) ∧ w46.cell? (ad349.add (x13_2).toNat) = some (.slice A349_0 (rd_L4 l2 x13_2).length c349_0) := hS_
        obtain ⟨Ao48, co48, eo48⟩ := Kd.N_slice HO353.out
        (first | subst eo48 | (injection eo48 with f1_ f2_ f3_; have f4_ := f1_.symm; have f5_ := f3_.symm; clear f1_ f2_ f3_; subst f4_; subst f5_))
        refine norm_ (a' := ?_) ?_ ?_
        rotate_left
        ·simp only [putAll, Act.put, List.setIfInBounds_toArray, List.set_cons_zero, List.set_cons_succ]
         rfl
        refine one_ (i := 10) (N := none) #[true, true, true, true, true, true, true, true, true, true, true, false] rfl rfl (one_of HT_.out (by kernel_rfl)) (by decide) (fun K hK => ?_)
        have hs47 : w46.cell? ⟨gb356, 0, none⟩ = some (.int .u64 0) := (bC BK356.out 0).trans rfl
        have hfs47 := bF BK356.out 0
        have hns47_0 := NB329_356.out
        have hns47_1 := NB330_356.out
        have hns47_2 := NB337_356.out
        have hns47_3 := NB347_356.out
        have hms47_0 := NB356_329.out
        have hms47_1 := NB356_330.out
        have hms47_2 := NB356_337.out
        have hms47_3 := NB356_347.out
        have hs49 : w46.cell? ⟨gb356, 1, none⟩ = some (.slice none 0 0) := (bC BK356.out 1).trans rfl
        have hfs49 := bF BK356.out 1
        have hns49_0 := NB329_356.out
        have hns49_1 := NB330_356.out
        have hns49_2 := NB337_356.out
        have hns49_3 := NB347_356.out
        have hms49_0 := NB356_329.out
        have hms49_1 := NB356_330.out
        have hms49_2 := NB356_337.out
        have hms49_3 := NB356_347.out
        have hs50 : w46.cell? ⟨gb356, 2, none⟩ = some (.string (⟨#[]⟩ : ByteArray)) := (bC BK356.out 2).trans rfl
        have hfs50 := bF BK356.out 2
        have hns50_0 := NB329_356.out
        have hns50_1 := NB330_356.out
        have hns50_2 := NB337_356.out
        have hns50_3 := NB347_356.out
        have hms50_0 := NB356_329.out
        have hms50_1 := NB356_330.out
        have hms50_2 := NB356_337.out
        have hms50_3 := NB356_347.out
        refine skip_ (w1 := ?_) (by rfl) rfl ?_ ?_
        rotate_left
        ·go_simp
         rfl
        refine hK.out _ _ ⟨((cell_far (p := ⟨gb356, _, none⟩) NB337_356.out _).trans (((cell_far (p := ⟨gb356, _, none⟩) NB337_356.out _).trans (((cell_far (p := ⟨gb356, _, none⟩) NB337_356.out _).trans (hHeld.1)))))), ((cell_far (p := ⟨gb356, _, none⟩) NB337_356.out _).trans (((cell_far (p := ⟨gb356, _, none⟩) NB337_356.out _).trans (((cell_far (p := ⟨gb356, _, none⟩) NB337_356.out _).trans (hHeld.2.1)))))), ((cell_far (p := ⟨gb356, _, none⟩) NB337_356.out _).trans (((cell_far (p := ⟨gb356, _, none⟩) NB337_356.out _).trans (((cell_far (p := ⟨gb356, _, none⟩) NB337_356.out _).trans (hHeld.2.2.1)))))), ((cell_far (p := ⟨gb356, _, none⟩) (by first | exact Nat.ne_of_lt (Nat.lt_of_lt_of_le (by have := World.block_lt_of_cell? _ _ hw349_0; first | rwa [add_block] at this | exact this) GW356.out) | (rw [add_block]; exact Nat.ne_of_lt (Nat.lt_of_lt_of_le (by have := World.block_lt_of_cell? _ _ hw349_0; first | rwa [add_block] at this | exact this) GW356.out)) | (show (Addr.add _ _).block ≠ _; rw [add_block]; exact Nat.ne_of_lt (Nat.lt_of_lt_of_le (by have := World.block_lt_of_cell? _ _ hw349_0; first | rwa [add_block] at this | exact this) GW356.out)) | (dsimp only; exact Nat.ne_of_lt (Nat.lt_of_lt_of_le (by have := World.block_lt_of_cell? _ _ hw349_0; first | rwa [add_block] at this | exact this) GW356.out))) _).trans (((cell_far (p := ⟨gb356, _, none⟩) (by first | exact Nat.ne_of_lt (Nat.lt_of_lt_of_le (by have := World.block_lt_of_cell? _ _ hw349_0; first | rwa [add_block] at this | exact this) GW356.out) | (rw [add_block]; exact Nat.ne_of_lt (Nat.lt_of_lt_of_le (by have := World.block_lt_of_cell? _ _ hw349_0; first | rwa [add_block] at this | exact this) GW356.out)) | (show (Addr.add _ _).block ≠ _; rw [add_block]; exact Nat.ne_of_lt (Nat.lt_of_lt_of_le (by have := World.block_lt_of_cell? _ _ hw349_0; first | rwa [add_block] at this | exact this) GW356.out)) | (dsimp only; exact Nat.ne_of_lt (Nat.lt_of_lt_of_le (by have := World.block_lt_of_cell? _ _ hw349_0; first | rwa [add_block] at this | exact this) GW356.out))) _).trans (((cell_far (p := ⟨gb356, _, none⟩) (by first | exact Nat.ne_of_lt (Nat.lt_of_lt_of_le (by have := World.block_lt_of_cell? _ _ hw349_0; first | rwa [add_block] at this | exact this) GW356.out) | (rw [add_block]; exact Nat.ne_of_lt (Nat.lt_of_lt_of_le (by have := World.block_lt_of_cell? _ _ hw349_0; first | rwa [add_block] at this | exact this) GW356.out)) | (show (Addr.add _ _).block ≠ _; rw [add_block]; exact Nat.ne_of_lt (Nat.lt_of_lt_of_le (by have := World.block_lt_of_cell? _ _ hw349_0; first | rwa [add_block] at this | exact this) GW356.out)) | (dsimp only; exact Nat.ne_of_lt (Nat.lt_of_lt_of_le (by have := World.block_lt_of_cell? _ _ hw349_0; first | rwa [add_block] at this | exact this) GW356.out))) _).trans (hHeld.2.2.2))))))⟩ (fun hHeld => ?_)
        clear hK K
        refine pure_ (i := 11) (N := some 15) (v := ?_) (a' := ?_) #[true, true, true, true, true, true, true, true, true, true, true, true] rfl rfl (any_of HT_.out (by kernel_rfl)) (fun _ _ _ h => h) (Or.inl ⟨by rfl, ?_⟩) ?_ ?_
        rotate_left
        ·intro w'
         go_simp
         with_reducible rfl
        rotate_left
        ·simp only [Act.put, setIfInBounds_toArray, set_cons_zero, set_cons_succ, i64_w, i32_w]
         rfl
        refine done_ (done_of HT_.out (by kernel_rfl)) ?_
        obtain ⟨Ao51, co51, eo51⟩ := Kd.N_slice HO_348001.out
        subst eo51
        try go_wp2
        have n0_ : Ax (Kd.N k44 44 (((w46.setCell ⟨gb356, 0, none⟩ (.int .u64 t350)).setCell ⟨gb356, 1, none⟩ (.slice Ao48 t351.length co48)).setCell ⟨gb356, 2, none⟩ (.string t354)) w.heap.size (fun k_ => (w.heap.size ≤ k_) ∧ some k_ ≠ (.slice Ao51 x348001_2.length co51 : Value).ownBlock ∧ some k_ ≠ (.slice Ao48 t351.length co48 : Value).ownBlock ∧ k_ ≠ gb329 ∧ k_ ≠ gb330 ∧ k_ ≠ gb337 ∧ k_ ≠ gb347 ∧ k_ ≠ gb356) (.slice Ao42 x338001_2.length co42) x338001_2) := ⟨by apply Kd.N_to; exact Kd.N_mono (Kd.N_far (p := ⟨gb356, 2, none⟩) (Kd.N_far (p := ⟨gb356, 1, none⟩) (Kd.N_far (p := ⟨gb356, 0, none⟩) (Kd.N_mono HO_338001.out (fun k_ hk => (⟨hk, hk.2.2.2.2.2.2.2⟩ : _ ∧ k_ ≠ gb356))) (fun _ hk => hk.2) (.int .u64 t350)) (fun _ hk => hk.2) (.slice Ao48 t351.length co48)) (fun _ hk => hk.2) (.string t354)) (fun _ hk => ⟨hk.1.1, ⟨hk.1.2.2.1, ⟨hk.1.2.1, ⟨hk.1.2.2.2.1, ⟨hk.1.2.2.2.2.1, ⟨hk.1.2.2.2.2.2.1, ⟨hk.1.2.2.2.2.2.2.1, hk.1.2.2.2.2.2.2.2⟩⟩⟩⟩⟩⟩⟩)⟩
        have n1_ : Ax (Kd.N k46 46 (((w46.setCell ⟨gb356, 0, none⟩ (.int .u64 t350)).setCell ⟨gb356, 1, none⟩ (.slice Ao48 t351.length co48)).setCell ⟨gb356, 2, none⟩ (.string t354)) w.heap.size (fun k_ => (w.heap.size ≤ k_) ∧ some k_ ≠ (.slice Ao42 x338001_2.length co42 : Value).ownBlock ∧ some k_ ≠ (.slice Ao48 t351.length co48 : Value).ownBlock ∧ k_ ≠ gb329 ∧ k_ ≠ gb330 ∧ k_ ≠ gb337 ∧ k_ ≠ gb347 ∧ k_ ≠ gb356) (.slice Ao51 x348001_2.length co51) x348001_2) := ⟨by apply Kd.N_to; exact Kd.N_mono (Kd.N_far (p := ⟨gb356, 2, none⟩) (Kd.N_far (p := ⟨gb356, 1, none⟩) (Kd.N_far (p := ⟨gb356, 0, none⟩) (Kd.N_mono HO_348001.out (fun k_ hk => (⟨hk, hk.2.2.2.2.2.2.2⟩ : _ ∧ k_ ≠ gb356))) (fun _ hk => hk.2) (.int .u64 t350)) (fun _ hk => hk.2) (.slice Ao48 t351.length co48)) (fun _ hk => hk.2) (.string t354)) (fun _ hk => ⟨hk.1.1, ⟨hk.1.2.2.1, ⟨hk.1.2.1, ⟨hk.1.2.2.2.1, ⟨hk.1.2.2.2.2.1, ⟨hk.1.2.2.2.2.2.1, ⟨hk.1.2.2.2.2.2.2.1, hk.1.2.2.2.2.2.2.2⟩⟩⟩⟩⟩⟩⟩)⟩
        have n2_ : Ax (Kd.N k44 44 (((w46.setCell ⟨gb356, 0, none⟩ (.int .u64 t350)).setCell ⟨gb356, 1, none⟩ (.slice Ao48 t351.length co48)).setCell ⟨gb356, 2, none⟩ (.string t354)) w.heap.size (fun k_ => (w.heap.size ≤ k_) ∧ some k_ ≠ (.slice Ao51 x348001_2.length co51 : Value).ownBlock ∧ k_ ≠ gb329 ∧ k_ ≠ gb330 ∧ k_ ≠ gb337 ∧ k_ ≠ gb347 ∧ k_ ≠ gb356) (.slice Ao48 t351.length co48) t351) := ⟨by apply Kd.N_to; exact Kd.N_mono (Kd.N_far (p := ⟨gb356, 2, none⟩) (Kd.N_far (p := ⟨gb356, 1, none⟩) (Kd.N_far (p := ⟨gb356, 0, none⟩) (Kd.N_mono HO353.out (fun k_ hk => (⟨hk, hk.2.2.2.2.2.2⟩ : _ ∧ k_ ≠ gb356))) (fun _ hk => hk.2) (.int .u64 t350)) (fun _ hk => hk.2) (.slice Ao48 t351.length co48)) (fun _ hk => hk.2) (.string t354)) (fun _ hk => ⟨hk.1.1, ⟨hk.1.2.1, ⟨hk.1.2.2.1, ⟨hk.1.2.2.2.1, ⟨hk.1.2.2.2.2.1, ⟨hk.1.2.2.2.2.2.1, hk.1.2.2.2.2.2.2⟩⟩⟩⟩⟩⟩)⟩
        have n3_ : Ax ((((w46.setCell ⟨gb356, 0, none⟩ (.int .u64 t350)).setCell ⟨gb356, 1, none⟩ (.slice Ao48 t351.length co48)).setCell ⟨gb356, 2, none⟩ (.string t354)).heap[gb329]? = some (.cells #[.int .u64 x330000_2, .slice none 0 0, .string x330002_2] 66 (0, 0))) := ⟨by refine bT ?_; refine bR ?_ NB329_356.out _; refine bT ?_; refine bR ?_ NB329_356.out _; refine bT ?_; refine bR ?_ NB329_356.out _; refine bT ?_; exact BK329.out⟩
        have n4_ : Ax ((((w46.setCell ⟨gb356, 0, none⟩ (.int .u64 t350)).setCell ⟨gb356, 1, none⟩ (.slice Ao48 t351.length co48)).setCell ⟨gb356, 2, none⟩ (.string t354)).heap[gb330]? = some (.cells #[.int .u64 x331000_2, .slice none 0 0, .string x331002_2] 68 (0, 0))) := ⟨by refine bT ?_; refine bR ?_ NB330_356.out _; refine bT ?_; refine bR ?_ NB330_356.out _; refine bT ?_; refine bR ?_ NB330_356.out _; refine bT ?_; exact BK330.out⟩
        have n5_ : Ax ((((w46.setCell ⟨gb356, 0, none⟩ (.int .u64 t350)).setCell ⟨gb356, 1, none⟩ (.slice Ao48 t351.length co48)).setCell ⟨gb356, 2, none⟩ (.string t354)).heap[gb337]? = some (.cells #[.int .u64 x338000_2, .slice Ao42 x338001_2.length co42, .string x338002_2] 66 (0, 0))) := ⟨by refine bT ?_; refine bR ?_ NB337_356.out _; refine bT ?_; refine bR ?_ NB337_356.out _; refine bT ?_; refine bR ?_ NB337_356.out _; refine bT ?_; exact BK337.out⟩
        have n6_ : Ax ((((w46.setCell ⟨gb356, 0, none⟩ (.int .u64 t350)).setCell ⟨gb356, 1, none⟩ (.slice Ao48 t351.length co48)).setCell ⟨gb356, 2, none⟩ (.string t354)).heap[gb347]? = some (.cells #[.int .u64 x348000_2, .slice Ao51 x348001_2.length co51, .string x348002_2] 68 (0, 0))) := ⟨by refine bT ?_; refine bR ?_ NB347_356.out _; refine bT ?_; refine bR ?_ NB347_356.out _; refine bT ?_; refine bR ?_ NB347_356.out _; refine bT ?_; exact BK347.out⟩
        have n7_ : Ax ((((w46.setCell ⟨gb356, 0, none⟩ (.int .u64 t350)).setCell ⟨gb356, 1, none⟩ (.slice Ao48 t351.length co48)).setCell ⟨gb356, 2, none⟩ (.string t354)).heap[gb356]? = some (.cells #[.int .u64 t350, .slice Ao48 t351.length co48, .string t354] 66 (0, 0))) := ⟨by refine bT ?_; refine bU (cs := #[.int .u64 t350, .slice Ao48 t351.length co48, .string (⟨#[]⟩ : ByteArray)]) ?_ 2 _ rfl; refine bT ?_; refine bU (cs := #[.int .u64 t350, .slice none 0 0, .string (⟨#[]⟩ : ByteArray)]) ?_ 1 _ rfl; refine bT ?_; refine bU (cs := #[.int .u64 0, .slice none 0 0, .string (⟨#[]⟩ : ByteArray)]) ?_ 0 _ rfl; refine bT ?_; exact BK356.out⟩
        have n8_ : Ax (Below w.heap.size w (((w46.setCell ⟨gb356, 0, none⟩ (.int .u64 t350)).setCell ⟨gb356, 1, none⟩ (.slice Ao48 t351.length co48)).setCell ⟨gb356, 2, none⟩ (.string t354))) := ⟨bA⟩
        (try clear HO_338001)
        (try clear HO_348001)
        (try clear HO353)
        (try clear BK329)
        (try clear BK330)
        (try clear BK337)
        (try clear BK347)
        (try clear BK356)
        (try clear HB)
        generalize (((w46.setCell ⟨gb356, 0, none⟩ (.int .u64 t350)).setCell ⟨gb356, 1, none⟩ (.slice Ao48 t351.length co48)).setCell ⟨gb356, 2, none⟩ (.string t354)) = w52 at n0_ n1_ n2_ n3_ n4_ n5_ n6_ n7_ n8_ ⊢
        have HO_338001 := n0_
        have HO_348001 := n1_
        have HO353 := n2_
        have BK329 := n3_
        have BK330 := n4_
        have BK337 := n5_
        have BK347 := n6_
        have BK356 := n7_
        have HB := n8_
        clear n0_ n1_ n2_ n3_ n4_ n5_ n6_ n7_ n8_
        have n0_ := Ax.mk (Kd.N_drew HO_338001.out)
        have n1_ := Ax.mk (Kd.N_drew HO_348001.out)
        have n2_ := Ax.mk (Kd.N_drew HO353.out)
        have n3_ := Ax.mk (blk_drew BK329.out)
        have n4_ := Ax.mk (blk_drew BK330.out)
        have n5_ := Ax.mk (blk_drew BK337.out)
        have n6_ := Ax.mk (blk_drew BK347.out)
        have n7_ := Ax.mk (blk_drew BK356.out)
        have n8_ := Ax.mk (below_drew1 HB.out)
        clear HO_338001
        clear HO_348001
        clear HO353
        clear BK329
        clear BK330
        clear BK337
        clear BK347
        clear BK356
        clear HB
        have HO_338001 := n0_
        have HO_348001 := n1_
        have HO353 := n2_
        have BK329 := n3_
        have BK330 := n4_
        have BK337 := n5_
        have BK347 := n6_
        have BK356 := n7_
        have HB := n8_
        clear n0_ n1_ n2_ n3_ n4_ n5_ n6_ n7_ n8_
        have p357 : 0 ≤ (x13_2 : Int) := of_decide_eq_true (by first | (with_reducible assumption) | assumption)
        have q357 : x13_2 < (l2.length : Int) := of_decide_eq_true (by first | (with_reducible assumption) | assumption)
        obtain ⟨ad357, A357_0, c357_0, e357, hx357_0, hl357_0, hi357_0⟩ := at_L4 HR2.out x13_2 p357 q357
        have hw357_0 := hx357_0
        obtain rfl : ad349 = ad357 := (by injection e357)
        replace hx357_0 := (HB.out.cell (World.block_lt_of_cell? w _ hx357_0)).trans hx357_0
        have HR357_0 := Ax.mk hi357_0
        have HC357_0 := Ax.mk hl357_0
        clear hi357_0 hl357_0
        replace p357 := eq_true p357
        replace q357 := eq_true q357
        refine start_ (n := 13) (S := fun w' => w'.cell? ⟨gb347, 0, none⟩ = some (.int .u64 x348000_2) ∧ w'.cell? ⟨gb347, 1, none⟩ = some (.slice Ao51 x348001_2.length co51) ∧ w'.cell? ⟨gb347, 2, none⟩ = some (.string x348002_2) ∧ w'.cell? (ad349.add (x13_2).toNat) = some (.slice A357_0 (rd_L4 l2 x13_2).length c357_0)) (ds := []) #[false, false, false, false, false, false, false, false, false, false, false, false, false] (by kernel_rfl) rfl rfl ⟨(bC BK347.out 0).trans rfl, (bC BK347.out 1).trans rfl, (bC BK347.out 2).trans rfl, ((HB.out.cell (World.block_lt_of_cell? w _ hw357_0)).trans hw357_0)⟩ (fun hHeld => ?_); refine with_tabW l13_built.tab9 l13_built.bits9 (fun HT_ HW_ => ?_)
        generalize w52.drew = w53 at HO_338001 HO_348001 HO353 BK329 BK330 BK337 BK347 BK356 HB HR357_0 hx357_0 hHeld ⊢
        refine pure_ (i := 1) (N := some 59) (v := ?_) (a' := ?_) #[false, true, false, false, false, false, false, false, false, false, false, false, false] rfl rfl (any_of HT_.out (by kernel_rfl)) (fun _ _ _ h => h) (Or.inl ⟨by rfl, ?_⟩) ?_ ?_
        rotate_left
        ·intro w'
         go_simp
         with_reducible rfl
        rotate_left
        ·simp only [Act.put, setIfInBounds_toArray, set_cons_zero, set_cons_succ, i64_w, i32_w]
         rfl
        refine pure_ (i := 2) (N := some 60) (v := ?_) (a' := ?_) #[false, true, true, false, false, false, false, false, false, false, false, false, false] rfl rfl (any_of HT_.out (by kernel_rfl)) (fun _ _ _ h => h) (Or.inl ⟨by rfl, ?_⟩) ?_ ?_
        rotate_left
        ·intro w'
         go_simp
         with_reducible rfl
        rotate_left
        ·simp only [Act.put, setIfInBounds_toArray, set_cons_zero, set_cons_succ, i64_w, i32_w]
         rfl
        refine pure_ (i := 3) (N := some 61) (v := ?_) (a' := ?_) #[false, true, true, true, false, false, false, false, false, false, false, false, false] rfl rfl (any_of HT_.out (by kernel_rfl)) (fun _ _ _ h => h) (Or.inl ⟨by rfl, ?_⟩) ?_ ?_
        rotate_left
        ·intro w'
         go_simp
         with_reducible rfl
        rotate_left
        ·simp only [Act.put, setIfInBounds_toArray, set_cons_zero, set_cons_succ, i64_w, i32_w]
         rfl
        refine take_ (i := 0) (N := some 58) (v := ?_) (a' := ?_) #[true, true, true, true, false, false, false, false, false, false, false, false, false] rfl rfl (take_ofW HT_.out HW_.out (by kernel_rfl)) (fun _ _ _ h => h) (Or.inl ⟨by rfl, ?_⟩) hHeld ?_ ?_
        rotate_left
        ·rintro w' ⟨s0, s1, s2, s3⟩
         go_simp
         with_reducible rfl
        rotate_left
        ·simp only [Act.put, setIfInBounds_toArray, set_cons_zero, set_cons_succ, i64_w, i32_w]
         rfl
        refine take_ (i := 4) (N := some 62) (v := ?_) (a' := ?_) #[true, true, true, true, true, false, false, false, false, false, false, false, false] rfl rfl (take_ofW HT_.out HW_.out (by kernel_rfl)) (fun _ _ _ h => h) (Or.inl ⟨by rfl, ?_⟩) hHeld ?_ ?_
        rotate_left
        ·rintro w' ⟨s0, s1, s2, s3⟩
         go_simp
         with_reducible rfl
        rotate_left
        ·simp only [Act.put, setIfInBounds_toArray, set_cons_zero, set_cons_succ, i64_w, i32_w]
         rfl
        refine join_ (σ := Value × Value × Nat) 2 #[true, true, true, true, true, true, true, true, true, true, true, false, false] (fun s_ => [(63, s_.1), (64, .tuple #[.agg #[.int .u64 t361, s_.2.1, .string t365], .int .i64 t366]), (16, .pointer (some ⟨s_.2.2, 0, none⟩)), (57, .tuple #[.agg #[.int .u64 t361, s_.2.1, .string t365], .int .i64 t366]), (65, .agg #[.int .u64 t361, s_.2.1, .string t365]), (66, .int .i64 t366)]) (fun s_ w' => (w'.cell? ⟨gb347, 0, none⟩ = some (.int .u64 x348000_2) ∧ w'.cell? ⟨gb347, 1, none⟩ = some (.slice Ao51 x348001_2.length co51) ∧ w'.cell? ⟨gb347, 2, none⟩ = some (.string x348002_2) ∧ w'.cell? (ad349.add (x13_2).toNat) = some (.slice A357_0 (rd_L4 l2 x13_2).length c357_0)) ∧ (Kd.N k44 44 w' w.heap.size (fun k_ => (w.heap.size ≤ k_) ∧ some k_ ≠ (s_.1 : Value).ownBlock ∧ some k_ ≠ (s_.2.1 : Value).ownBlock ∧ some k_ ≠ (.slice Ao51 x348001_2.length co51 : Value).ownBlock ∧ k_ ≠ gb329 ∧ k_ ≠ gb330 ∧ k_ ≠ gb337 ∧ k_ ≠ gb347 ∧ k_ ≠ gb356 ∧ k_ ≠ s_.2.2) (.slice Ao48 t351.length co48) t351) ∧ (Kd.R k26 26 w' w.heap.size (fun k_ => (w.heap.size ≤ k_)) s_.1 t358) ∧ (Kd.N k46 46 w' w.heap.size (fun k_ => (w.heap.size ≤ k_) ∧ some k_ ≠ (.slice Ao48 t351.length co48 : Value).ownBlock ∧ some k_ ≠ (.slice Ao42 x338001_2.length co42 : Value).ownBlock ∧ k_ ≠ gb329 ∧ k_ ≠ gb330 ∧ k_ ≠ gb337 ∧ k_ ≠ gb347 ∧ k_ ≠ gb356 ∧ k_ ≠ s_.2.2) s_.2.1 t362) ∧ (Kd.N k44 44 w' w.heap.size (fun k_ => (w.heap.size ≤ k_) ∧ some k_ ≠ (.slice Ao48 t351.length co48 : Value).ownBlock ∧ some k_ ≠ (s_.1 : Value).ownBlock ∧ some k_ ≠ (s_.2.1 : Value).ownBlock ∧ some k_ ≠ (.slice Ao51 x348001_2.length co51 : Value).ownBlock ∧ k_ ≠ gb329 ∧ k_ ≠ gb330 ∧ k_ ≠ gb337 ∧ k_ ≠ gb347 ∧ k_ ≠ gb356 ∧ k_ ≠ s_.2.2) (.slice Ao42 x338001_2.length co42) x338001_2) ∧ (Kd.N k46 46 w' w.heap.size (fun k_ => (w.heap.size ≤ k_) ∧ some k_ ≠ (.slice Ao48 t351.length co48 : Value).ownBlock ∧ some k_ ≠ (s_.1 : Value).ownBlock ∧ some k_ ≠ (s_.2.1 : Value).ownBlock ∧ some k_ ≠ (.slice Ao42 x338001_2.length co42 : Value).ownBlock ∧ k_ ≠ gb329 ∧ k_ ≠ gb330 ∧ k_ ≠ gb337 ∧ k_ ≠ gb347 ∧ k_ ≠ gb356 ∧ k_ ≠ s_.2.2) (.slice Ao51 x348001_2.length co51) x348001_2) ∧ (w'.heap[gb329]? = some (.cells #[.int .u64 x330000_2, .slice none 0 0, .string x330002_2] 66 (0, 0))) ∧ (w'.heap[gb330]? = some (.cells #[.int .u64 x331000_2, .slice none 0 0, .string x331002_2] 68 (0, 0))) ∧ (w'.heap[gb337]? = some (.cells #[.int .u64 x338000_2, .slice Ao42 x338001_2.length co42, .string x338002_2] 66 (0, 0))) ∧ (w'.heap[gb347]? = some (.cells #[.int .u64 x348000_2, .slice Ao51 x348001_2.length co51, .string x348002_2] 68 (0, 0))) ∧ (w'.heap[gb356]? = some (.cells #[.int .u64 t350, .slice Ao48 t351.length co48, .string t354] 66 (0, 0))) ∧ (w'.heap[s_.2.2]? = some (.cells #[.int .u64 0, .slice none 0 0, .string (⟨#[]⟩ : ByteArray)] 68 (0, 0))) ∧ (w.heap.size ≤ s_.2.2) ∧ (w.heap.size ≤ s_.2.2) ∧ (gb329 ≠ s_.2.2) ∧ (s_.2.2 ≠ gb329) ∧ (gb330 ≠ s_.2.2) ∧ (s_.2.2 ≠ gb330) ∧ (gb337 ≠ s_.2.2) ∧ (s_.2.2 ≠ gb337) ∧ (gb347 ≠ s_.2.2) ∧ (s_.2.2 ≠ gb347) ∧ (gb356 ≠ s_.2.2) ∧ (s_.2.2 ≠ gb356) ∧ (Below w.heap.size w w')) ?_ ?_
        rotate_left
        ·intro hCont
         refine two_ (i := 5) (j := 10) (Ni := some 63) (Nj := some 16) #[true, true, true, true, true, true, false, false, false, false, false, false, false] #[true, true, true, true, true, false, false, false, false, false, true, false, false] rfl rfl rfl rfl (two_of HT_.out (by kernel_rfl)) (by decide) (by decide) (fun K hK => ?_) (fun K hK => ?_)
         ·skip
          refine goes_ Tryd.func40 (by kernel_rfl) rfl #[.slice A357_0 (rd_L4 l2 x13_2).length c357_0] (by rfl) rfl rfl (by (try simp only [List.map_toArray, List.map_cons, List.map_nil]); first | done | rfl | (simp only [List.length_drop, List.length_take]; rfl) | (rw [wrap_sum2 (by assumption)]; rfl)) ?_
          with_reducible refine (l13_steps.calls k2 _ _ (rd_L4 l2 x13_2) t358 _ ?side1 ?side2 A39.out).mono ?_
          (case side1 => repeat (first | exact (Kd.C_below HR357_0.out HB.out) | (with_reducible refine Kd.C_alloc ?_ _) | (with_reducible refine Kd.C_drewN ?_ _) | (with_reducible refine Kd.C_drew ?_)))
          (case side2 => exact HC357_0.out)
          rintro e w54 ⟨v359, rfl, ho0, hb⟩
          refine ⟨_, rfl, ?_⟩
          have n0_ := Ax.mk (Kd.N_elder' (by exact Kd.N_to HO_338001.out) (Kd.R_base ho0) hb)
          have n1_ := Ax.mk (Kd.N_elder' (by exact Kd.N_to HO_348001.out) (Kd.R_base ho0) hb)
          have n2_ := Ax.mk (Kd.N_elder' (by exact Kd.N_to HO353.out) (Kd.R_base ho0) hb)
          have n3_ := Ax.mk (Kd.R_lower (Kd.R_newM (M := fun k_ => (w.heap.size ≤ k_)) ho0 (bS bA) (fun k_ h_ => h_)) (bS bA))
          have n4_ := Ax.mk (bB (bT BK329.out) hb)
          have n5_ := Ax.mk (bB (bT BK330.out) hb)
          have n6_ := Ax.mk (bB (bT BK337.out) hb)
          have n7_ := Ax.mk (bB (bT BK347.out) hb)
          have n8_ := Ax.mk (bB (bT BK356.out) hb)
          have n9_ := Ax.mk (bP bA hb)
          clear HO_338001
          clear HO_348001
          clear HO353
          clear BK329
          clear BK330
          clear BK337
          clear BK347
          clear BK356
          clear HB
          have HO_338001 := n0_
          have HO_348001 := n1_
          have HO353 := n2_
          have HO360 := n3_
          have BK329 := n4_
          have BK330 := n5_
          have BK337 := n6_
          have BK347 := n7_
          have BK356 := n8_
          have HB := n9_
          clear n0_ n1_ n2_ n3_ n4_ n5_ n6_ n7_ n8_ n9_
          (try clear hb)
          (try clear hb2)
          (try clear hk)
          (try clear hi)
          (try clear ho0)
          obtain ⟨Ao55, co55, eo55⟩ := Kd.R_slice HO360.out
          (first | subst eo55 | (injection eo55 with f1_ f2_ f3_; have f4_ := f1_.symm; have f5_ := f3_.symm; clear f1_ f2_ f3_; subst f4_; subst f5_))
          refine hK.out _ _ ⟨(bC BK347.out 0).trans rfl, (bC BK347.out 1).trans rfl, (bC BK347.out 2).trans rfl, ((HB.out.cell (World.block_lt_of_cell? w _ hw357_0)).trans hw357_0)⟩ (fun hHeld => ?_)
          clear hK K
          refine norm_ (a' := ?_) ?_ ?_
          rotate_left
          ·show Act.put _ (some 63) _ = _
           simp only [Act.put, setIfInBounds_toArray, set_cons_zero, set_cons_succ, i64_w, i32_w]
           rfl
          refine two_ (i := 6) (j := 10) (Ni := some 64) (Nj := some 16) #[true, true, true, true, true, true, true, false, false, false, false, false, false] #[true, true, true, true, true, true, false, false, false, false, true, false, false] rfl rfl rfl rfl (two_of HT_.out (by kernel_rfl)) (by decide) (by decide) (fun K hK => ?_) (fun K hK => ?_)
          ·skip
           refine goes_ Tryd.func61 (by kernel_rfl) rfl #[.agg #[.int .u64 x348000_2, .slice Ao51 x348001_2.length co51, .string x348002_2], .slice Ao55 t358.length co55] (by rfl) rfl rfl (by (try simp only [List.map_toArray, List.map_cons, List.map_nil]); first | done | rfl | (simp only [List.length_drop, List.length_take]; rfl) | (rw [wrap_sum2 (by assumption)]; rfl)) ?_
           with_reducible refine (r13_Add.calls k2 x348000_2 (fun k_ => (((w.heap.size ≤ k_) ∧ (some k_ ≠ (.slice Ao42 x338001_2.length co42 : Value).ownBlock ∧ (some k_ ≠ (.slice Ao48 t351.length co48 : Value).ownBlock ∧ (k_ ≠ gb329 ∧ (k_ ≠ gb330 ∧ (k_ ≠ gb337 ∧ (k_ ≠ gb347 ∧ k_ ≠ gb356))))))) ∧ some k_ ≠ (.slice Ao55 t358.length co55 : Value).ownBlock)) _ _ x348001_2 x348002_2 (fun k_ => some k_ = (.slice Ao55 t358.length co55 : Value).ownBlock) _ _ t358 t361 t362 t365 t366 _ ?side1 ?side2 A40.out).mono ?_
           (case side1 => exact Kd.N_V (HO_348001.out))
           (case side2 => exact Kd.R_V (Kd.R_tight rfl (Kd.R_types (Kd.R_types (Kd.R_types (Kd.R_types (Kd.R_types (Kd.R_apart' (Kd.R_apart' (Kd.R_apart' (HO360.out) (Kd.N_typed HO_338001.out) (by decide)) (Kd.N_typed HO_348001.out) (by decide)) (Kd.N_typed HO353.out) (by decide)) BK329.out (by decide)) BK330.out (by decide)) BK337.out (by decide)) BK347.out (by decide)) BK356.out (by decide))))
           rintro e w56 ⟨v363, rfl, ho0, hb⟩
           refine ⟨_, rfl, ?_⟩
           have n0_ := Ax.mk (Kd.N_elder' (by exact Kd.N_to HO_338001.out) (Kd.N_base ho0) hb)
           have n1_ := Ax.mk (Kd.N_elder' (by exact Kd.N_to HO_348001.out) (Kd.N_base ho0) hb)
           have n2_ := Ax.mk (Kd.N_elder' (by exact Kd.N_to HO353.out) (Kd.N_base ho0) hb)
           have n3_ := Ax.mk (Kd.R_below (by exact Kd.R_to HO360.out) hb)
           have n4_ := Ax.mk (Kd.N_lower (Kd.N_mono (ok' := fun k_ => (w.heap.size ≤ k_) ∧ some k_ ≠ (.slice Ao42 x338001_2.length co42 : Value).ownBlock ∧ some k_ ≠ (.slice Ao48 t351.length co48 : Value).ownBlock ∧ k_ ≠ gb329 ∧ k_ ≠ gb330 ∧ k_ ≠ gb337 ∧ k_ ≠ gb347 ∧ k_ ≠ gb356) ho0 (fun k_ hk_ => ⟨Or.elim hk_ (fun hs_ => Or.elim hs_ (fun hs_ => hs_.1.1) (fun hs_ => ((Kd.R_types (Kd.R_types (Kd.R_types (Kd.R_types (Kd.R_types (Kd.R_apart' (Kd.R_apart' (Kd.R_apart' (HO360.out) (Kd.N_typed HO_338001.out) (by decide)) (Kd.N_typed HO_348001.out) (by decide)) (Kd.N_typed HO353.out) (by decide)) BK329.out (by decide)) BK330.out (by decide)) BK337.out (by decide)) BK347.out (by decide)) BK356.out (by decide)).1 k_ hs_.symm).1.1.1.1.1.1.1.1.1)) (fun hn_ => (Nat.le_trans (bS bA) hn_)), Or.elim hk_ (fun hs_ => Or.elim hs_ (fun hs_ => hs_.1.2.1) (fun hs_ => ((Kd.R_types (Kd.R_types (Kd.R_types (Kd.R_types (Kd.R_types (Kd.R_apart' (Kd.R_apart' (Kd.R_apart' (HO360.out) (Kd.N_typed HO_338001.out) (by decide)) (Kd.N_typed HO_348001.out) (by decide)) (Kd.N_typed HO353.out) (by decide)) BK329.out (by decide)) BK330.out (by decide)) BK337.out (by decide)) BK347.out (by decide)) BK356.out (by decide)).1 k_ hs_.symm).1.1.1.1.1.1.1.2)) (fun hn_ => (Kd.fresh' (Kd.N_lt (by exact Kd.N_to HO_338001.out)) k_ hn_)), Or.elim hk_ (fun hs_ => Or.elim hs_ (fun hs_ => hs_.1.2.2.1) (fun hs_ => ((Kd.R_types (Kd.R_types (Kd.R_types (Kd.R_types (Kd.R_types (Kd.R_apart' (Kd.R_apart' (Kd.R_apart' (HO360.out) (Kd.N_typed HO_338001.out) (by decide)) (Kd.N_typed HO_348001.out) (by decide)) (Kd.N_typed HO353.out) (by decide)) BK329.out (by decide)) BK330.out (by decide)) BK337.out (by decide)) BK347.out (by decide)) BK356.out (by decide)).1 k_ hs_.symm).1.1.1.1.1.2)) (fun hn_ => (Kd.fresh' (Kd.N_lt (by exact Kd.N_to HO353.out)) k_ hn_)), Or.elim hk_ (fun hs_ => Or.elim hs_ (fun hs_ => hs_.1.2.2.2.1) (fun hs_ => ((Kd.R_types (Kd.R_types (Kd.R_types (Kd.R_types (Kd.R_types (Kd.R_apart' (Kd.R_apart' (Kd.R_apart' (HO360.out) (Kd.N_typed HO_338001.out) (by decide)) (Kd.N_typed HO_348001.out) (by decide)) (Kd.N_typed HO353.out) (by decide)) BK329.out (by decide)) BK330.out (by decide)) BK337.out (by decide)) BK347.out (by decide)) BK356.out (by decide)).1 k_ hs_.symm).1.1.1.1.2)) (fun hn_ => (Kd.freshB (g := gb329) (o := .cells #[.int .u64 x330000_2, .slice none 0 0, .string x330002_2] 66 (0, 0)) (bT BK329.out) k_ hn_)), Or.elim hk_ (fun hs_ => Or.elim hs_ (fun hs_ => hs_.1.2.2.2.2.1) (fun hs_ => ((Kd.R_types (Kd.R_types (Kd.R_types (Kd.R_types (Kd.R_types (Kd.R_apart' (Kd.R_apart' (Kd.R_apart' (HO360.out) (Kd.N_typed HO_338001.out) (by decide)) (Kd.N_typed HO_348001.out) (by decide)) (Kd.N_typed HO353.out) (by decide)) BK329.out (by decide)) BK330.out (by decide)) BK337.out (by decide)) BK347.out (by decide)) BK356.out (by decide)).1 k_ hs_.symm).1.1.1.2)) (fun hn_ => (Kd.freshB (g := gb330) (o := .cells #[.int .u64 x331000_2, .slice none 0 0, .string x331002_2] 68 (0, 0)) (bT BK330.out) k_ hn_)), Or.elim hk_ (fun hs_ => Or.elim hs_ (fun hs_ => hs_.1.2.2.2.2.2.1) (fun hs_ => ((Kd.R_types (Kd.R_types (Kd.R_types (Kd.R_types (Kd.R_types (Kd.R_apart' (Kd.R_apart' (Kd.R_apart' (HO360.out) (Kd.N_typed HO_338001.out) (by decide)) (Kd.N_typed HO_348001.out) (by decide)) (Kd.N_typed HO353.out) (by decide)) BK329.out (by decide)) BK330.out (by decide)) BK337.out (by decide)) BK347.out (by decide)) BK356.out (by decide)).1 k_ hs_.symm).1.1.2)) (fun hn_ => (Kd.freshB (g := gb337) (o := .cells #[.int .u64 x338000_2, .slice Ao42 x338001_2.length co42, .string x338002_2] 66 (0, 0)) (bT BK337.out) k_ hn_)), Or.elim hk_ (fun hs_ => Or.elim hs_ (fun hs_ => hs_.1.2.2.2.2.2.2.1) (fun hs_ => ((Kd.R_types (Kd.R_types (Kd.R_types (Kd.R_types (Kd.R_types (Kd.R_apart' (Kd.R_apart' (Kd.R_apart' (HO360.out) (Kd.N_typed HO_338001.out) (by decide)) (Kd.N_typed HO_348001.out) (by decide)) (Kd.N_typed HO353.out) (by decide)) BK329.out (by decide)) BK330.out (by decide)) BK337.out (by decide)) BK347.out (by decide)) BK356.out (by decide)).1 k_ hs_.symm).1.2)) (fun hn_ => (Kd.freshB (g := gb347) (o := .cells #[.int .u64 x348000_2, .slice Ao51 x348001_2.length co51, .string x348002_2] 68 (0, 0)) (bT BK347.out) k_ hn_)), Or.elim hk_ (fun hs_ => Or.elim hs_ (fun hs_ => hs_.1.2.2.2.2.2.2.2) (fun hs_ => ((Kd.R_types (Kd.R_types (Kd.R_types (Kd.R_types (Kd.R_types (Kd.R_apart' (Kd.R_apart' (Kd.R_apart' (HO360.out) (Kd.N_typed HO_338001.out) (by decide)) (Kd.N_typed HO_348001.out) (by decide)) (Kd.N_typed HO353.out) (by decide)) BK329.out (by decide)) BK330.out (by decide)) BK337.out (by decide)) BK347.out (by decide)) BK356.out (by decide)).1 k_ hs_.symm).2)) (fun hn_ => (Kd.freshB (g := gb356) (o := .cells #[.int .u64 t350, .slice Ao48 t351.length co48, .string t354] 66 (0, 0)) (bT BK356.out) k_ hn_))⟩)) (bS bA))
           have n5_ := Ax.mk (bB (bT BK329.out) hb)
           have n6_ := Ax.mk (bB (bT BK330.out) hb)
           have n7_ := Ax.mk (bB (bT BK337.out) hb)
           have n8_ := Ax.mk (bB (bT BK347.out) hb)
           have n9_ := Ax.mk (bB (bT BK356.out) hb)
           have n10_ := Ax.mk (bP bA hb)
           clear HO_338001
           clear HO_348001
           clear HO353
           clear HO360
           clear BK329
           clear BK330
           clear BK337
           clear BK347
           clear BK356
           clear HB
           have HO_338001 := n0_
           have HO_348001 := n1_
           have HO353 := n2_
           have HO360 := n3_
           have HO364 := n4_
           have BK329 := n5_
           have BK330 := n6_
           have BK337 := n7_
           have BK347 := n8_
           have BK356 := n9_
           have HB := n10_
           clear n0_ n1_ n2_ n3_ n4_ n5_ n6_ n7_ n8_ n9_ n10_
           (try clear hb)
           (try clear hb2)
           (try clear hk)
           (try clear hi)
           (try clear ho0)
           refine hK.out _ _ ⟨(bC BK347.out 0).trans rfl, (bC BK347.out 1).trans rfl, (bC BK347.out 2).trans rfl, ((HB.out.cell (World.block_lt_of_cell? w _ hw357_0)).trans hw357_0)⟩ (fun hHeld => ?_)
           clear hK K
           refine norm_ (a' := ?_) ?_ ?_
           rotate_left
           ·show Act.put _ (some 64) _ = _
            simp only [Act.put, setIfInBounds_toArray, set_cons_zero, set_cons_succ, i64_w, i32_w]
            rfl
           refine pure_ (i := 7) (N := some 57) (v := ?_) (a' := ?_) #[true, true, true, true, true, true, true, true, false, false, false, false, false] rfl rfl (any_of HT_.out (by kernel_rfl)) (fun _ _ _ h => h) (Or.inl ⟨by rfl, ?_⟩) ?_ ?_
           rotate_left
           ·intro w'
            go_simp
            with_reducible rfl
           rotate_left
           ·simp only [Act.put, setIfInBounds_toArray, set_cons_zero, set_cons_succ, i64_w, i32_w]
            rfl
           refine pure_ (i := 8) (N := some 65) (v := ?_) (a' := ?_) #[true, true, true, true, true, true, true, true, true, false, false, false, false] rfl rfl (any_of HT_.out (by kernel_rfl)) (fun _ _ _ h => h) (Or.inl ⟨by rfl, ?_⟩) ?_ ?_
           rotate_left
           ·intro w'
            go_simp
            with_reducible rfl
           rotate_left
           ·simp only [Act.put, setIfInBounds_toArray, set_cons_zero, set_cons_succ, i64_w, i32_w]
            rfl
           refine pure_ (i := 9) (N := some 66) (v := ?_) (a' := ?_) #[true, true, true, true, true, true, true, true, true, true, false, false, false] rfl rfl (any_of HT_.out (by kernel_rfl)) (fun _ _ _ h => h) (Or.inl ⟨by rfl, ?_⟩) ?_ ?_
           rotate_left
           ·intro w'
            go_simp
            with_reducible rfl
           rotate_left
           ·simp only [Act.put, setIfInBounds_toArray, set_cons_zero, set_cons_succ, i64_w, i32_w]
            rfl
           refine one_ (i := 10) (N := some 16) #[true, true, true, true, true, true, true, true, true, true, true, false, false] rfl rfl (one_of HT_.out (by kernel_rfl)) (by decide) (fun K hK => ?_)
           refine box_step ?hg (N := 16) ?hd (cs := #[.int .u64 0, .slice none 0 0, .string (⟨#[]⟩ : ByteArray)]) (t := 68) ?hr ?_; (case hd => rfl); (case hg => rfl); (case hr => first | (go_simp; done) | (go_simp; rfl))
           intro gb367 hg w57 hbox hb
           have n0_ := Ax.mk (Kd.N_below (Kd.N_elderB (by exact Kd.N_to HO_338001.out) gb367 (Nat.le_of_eq hg.symm)) hb)
           have n1_ := Ax.mk (Kd.N_below (Kd.N_elderB (by exact Kd.N_to HO_348001.out) gb367 (Nat.le_of_eq hg.symm)) hb)
           have n2_ := Ax.mk (Kd.N_below (Kd.N_elderB (by exact Kd.N_to HO353.out) gb367 (Nat.le_of_eq hg.symm)) hb)
           have n3_ := Ax.mk (Kd.R_below (by exact Kd.R_to HO360.out) hb)
           have n4_ := Ax.mk (Kd.N_below (Kd.N_elderB (by exact Kd.N_to HO364.out) gb367 (Nat.le_of_eq hg.symm)) hb)
           have n5_ := Ax.mk (bB (bT BK329.out) hb)
           have n6_ := Ax.mk (bB (bT BK330.out) hb)
           have n7_ := Ax.mk (bB (bT BK337.out) hb)
           have n8_ := Ax.mk (bB (bT BK347.out) hb)
           have n9_ := Ax.mk (bB (bT BK356.out) hb)
           have n10_ := Ax.mk (bP bA hb)
           have n11_ := Ax.mk (hbox)
           have n12_ := Ax.mk ((ge_new hg : w.heap.size ≤ gb367))
           have n13_ := Ax.mk ((ge_new hg : w.heap.size ≤ gb367))
           have n14_ := Ax.mk ((ne_lt hg BK329.out : gb329 ≠ gb367))
           have n15_ := Ax.mk ((ne_gt hg BK329.out : gb367 ≠ gb329))
           have n16_ := Ax.mk ((ne_lt hg BK330.out : gb330 ≠ gb367))
           have n17_ := Ax.mk ((ne_gt hg BK330.out : gb367 ≠ gb330))
           have n18_ := Ax.mk ((ne_lt hg BK337.out : gb337 ≠ gb367))
           have n19_ := Ax.mk ((ne_gt hg BK337.out : gb367 ≠ gb337))
           have n20_ := Ax.mk ((ne_lt hg BK347.out : gb347 ≠ gb367))
           have n21_ := Ax.mk ((ne_gt hg BK347.out : gb367 ≠ gb347))
           have n22_ := Ax.mk ((ne_lt hg BK356.out : gb356 ≠ gb367))
           have n23_ := Ax.mk ((ne_gt hg BK356.out : gb367 ≠ gb356))
           clear HO_338001
           clear HO_348001
           clear HO353
           clear HO360
           clear HO364
           clear BK329
           clear BK330
           clear BK337
           clear BK347
           clear BK356
           clear HB
           have HO_338001 := n0_
           have HO_348001 := n1_
           have HO353 := n2_
           have HO360 := n3_
           have HO364 := n4_
           have BK329 := n5_
           have BK330 := n6_
           have BK337 := n7_
           have BK347 := n8_
           have BK356 := n9_
           have HB := n10_
           have BK367 := n11_
           have GW367 := n12_
           have GE367 := n13_
           have NB329_367 := n14_
           have NB367_329 := n15_
           have NB330_367 := n16_
           have NB367_330 := n17_
           have NB337_367 := n18_
           have NB367_337 := n19_
           have NB347_367 := n20_
           have NB367_347 := n21_
           have NB356_367 := n22_
           have NB367_356 := n23_
           clear n0_ n1_ n2_ n3_ n4_ n5_ n6_ n7_ n8_ n9_ n10_ n11_ n12_ n13_ n14_ n15_ n16_ n17_ n18_ n19_ n20_ n21_ n22_ n23_
           clear hb hbox hg
           refine hK.out _ _ ⟨(bC BK347.out 0).trans rfl, (bC BK347.out 1).trans rfl, (bC BK347.out 2).trans rfl, ((HB.out.cell (World.block_lt_of_cell? w _ hw357_0)).trans hw357_0)⟩ (fun hHeld => ?_)
           clear hK K
           refine norm_ (a' := ?_) ?_ ?_
           rotate_left
           ·show Act.put _ (some 16) _ = _
            simp only [Act.put, setIfInBounds_toArray, set_cons_zero, set_cons_succ, i64_w, i32_w]
            rfl
           exact norm_ (by simp only [putAll, Act.put, List.setIfInBounds_toArray, List.set_cons_zero, List.set_cons_succ]) (hCont (.slice Ao55 t358.length co55, v363, gb367) _ ⟨hHeld, (by apply Kd.N_to; exact Kd.N_mono HO353.out (fun _ hk => ⟨hk.1.1.1.1, ⟨hk.1.1.2, ⟨hk.1.2, ⟨hk.1.1.1.2.1, ⟨hk.1.1.1.2.2.1, ⟨hk.1.1.1.2.2.2.1, ⟨hk.1.1.1.2.2.2.2.1, ⟨hk.1.1.1.2.2.2.2.2.1, ⟨hk.1.1.1.2.2.2.2.2.2, hk.2⟩⟩⟩⟩⟩⟩⟩⟩⟩)), (by apply Kd.R_to; exact Kd.R_mono HO360.out (fun _ hk => hk.1)), (by apply Kd.N_to; exact Kd.N_mono HO364.out (fun _ hk => ⟨hk.1.1, ⟨hk.1.2.2.1, ⟨hk.1.2.1, ⟨hk.1.2.2.2.1, ⟨hk.1.2.2.2.2.1, ⟨hk.1.2.2.2.2.2.1, ⟨hk.1.2.2.2.2.2.2.1, ⟨hk.1.2.2.2.2.2.2.2, hk.2⟩⟩⟩⟩⟩⟩⟩⟩)), (by apply Kd.N_to; exact Kd.N_mono HO_338001.out (fun _ hk => ⟨hk.1.1.1.1, ⟨hk.1.1.1.2.2.1, ⟨hk.1.1.2, ⟨hk.1.2, ⟨hk.1.1.1.2.1, ⟨hk.1.1.1.2.2.2.1, ⟨hk.1.1.1.2.2.2.2.1, ⟨hk.1.1.1.2.2.2.2.2.1, ⟨hk.1.1.1.2.2.2.2.2.2.1, ⟨hk.1.1.1.2.2.2.2.2.2.2, hk.2⟩⟩⟩⟩⟩⟩⟩⟩⟩⟩)), (by apply Kd.N_to; exact Kd.N_mono HO_348001.out (fun _ hk => ⟨hk.1.1.1.1, ⟨hk.1.1.1.2.2.1, ⟨hk.1.1.2, ⟨hk.1.2, ⟨hk.1.1.1.2.1, ⟨hk.1.1.1.2.2.2.1, ⟨hk.1.1.1.2.2.2.2.1, ⟨hk.1.1.1.2.2.2.2.2.1, ⟨hk.1.1.1.2.2.2.2.2.2.1, ⟨hk.1.1.1.2.2.2.2.2.2.2, hk.2⟩⟩⟩⟩⟩⟩⟩⟩⟩⟩)), (bT BK329.out), (bT BK330.out), (bT BK337.out), (bT BK347.out), (bT BK356.out), (bT BK367.out), GW367.out, GE367.out, NB329_367.out, NB367_329.out, NB330_367.out, NB367_330.out, NB337_367.out, NB367_337.out, NB347_367.out, NB367_347.out, NB356_367.out, NB367_356.out, bA⟩)
          ·skip
           refine box_step ?hg (N := 16) ?hd (cs := #[.int .u64 0, .slice none 0 0, .string (⟨#[]⟩ : ByteArray)]) (t := 68) ?hr ?_; (case hd => rfl); (case hg => rfl); (case hr => first | (go_simp; done) | (go_simp; rfl))
           intro gb367 hg w55 hbox hb
           have n0_ := Ax.mk (Kd.N_below (Kd.N_elderB (by exact Kd.N_to HO_338001.out) gb367 (Nat.le_of_eq hg.symm)) hb)
           have n1_ := Ax.mk (Kd.N_below (Kd.N_elderB (by exact Kd.N_to HO_348001.out) gb367 (Nat.le_of_eq hg.symm)) hb)
           have n2_ := Ax.mk (Kd.N_below (Kd.N_elderB (by exact Kd.N_to HO353.out) gb367 (Nat.le_of_eq hg.symm)) hb)
           have n3_ := Ax.mk (Kd.R_below (by exact Kd.R_to HO360.out) hb)
           have n4_ := Ax.mk (bB (bT BK329.out) hb)
           have n5_ := Ax.mk (bB (bT BK330.out) hb)
           have n6_ := Ax.mk (bB (bT BK337.out) hb)
           have n7_ := Ax.mk (bB (bT BK347.out) hb)
           have n8_ := Ax.mk (bB (bT BK356.out) hb)
           have n9_ := Ax.mk (bP bA hb)
           have n10_ := Ax.mk (hbox)
           have n11_ := Ax.mk ((ge_new hg : w.heap.size ≤ gb367))
           have n12_ := Ax.mk ((ge_new hg : w.heap.size ≤ gb367))
           have n13_ := Ax.mk ((ne_lt hg BK329.out : gb329 ≠ gb367))
           have n14_ := Ax.mk ((ne_gt hg BK329.out : gb367 ≠ gb329))
           have n15_ := Ax.mk ((ne_lt hg BK330.out : gb330 ≠ gb367))
           have n16_ := Ax.mk ((ne_gt hg BK330.out : gb367 ≠ gb330))
           have n17_ := Ax.mk ((ne_lt hg BK337.out : gb337 ≠ gb367))
           have n18_ := Ax.mk ((ne_gt hg BK337.out : gb367 ≠ gb337))
           have n19_ := Ax.mk ((ne_lt hg BK347.out : gb347 ≠ gb367))
           have n20_ := Ax.mk ((ne_gt hg BK347.out : gb367 ≠ gb347))
           have n21_ := Ax.mk ((ne_lt hg BK356.out : gb356 ≠ gb367))
           have n22_ := Ax.mk ((ne_gt hg BK356.out : gb367 ≠ gb356))
           clear HO_338001
           clear HO_348001
           clear HO353
           clear HO360
           clear BK329
           clear BK330
           clear BK337
           clear BK347
           clear BK356
           clear HB
           have HO_338001 := n0_
           have HO_348001 := n1_
           have HO353 := n2_
           have HO360 := n3_
           have BK329 := n4_
           have BK330 := n5_
           have BK337 := n6_
           have BK347 := n7_
           have BK356 := n8_
           have HB := n9_
           have BK367 := n10_
           have GW367 := n11_
           have GE367 := n12_
           have NB329_367 := n13_
           have NB367_329 := n14_
           have NB330_367 := n15_
           have NB367_330 := n16_
           have NB337_367 := n17_
           have NB367_337 := n18_
           have NB347_367 := n19_
           have NB367_347 := n20_
           have NB356_367 := n21_
           have NB367_356 := n22_
           clear n0_ n1_ n2_ n3_ n4_ n5_ n6_ n7_ n8_ n9_ n10_ n11_ n12_ n13_ n14_ n15_ n16_ n17_ n18_ n19_ n20_ n21_ n22_
           clear hb hbox hg
           obtain ⟨Ao56, co56, eo56⟩ := Kd.R_slice HO360.out
           (first | subst eo56 | (injection eo56 with f1_ f2_ f3_; have f4_ := f1_.symm; have f5_ := f3_.symm; clear f1_ f2_ f3_; subst f4_; subst f5_))
           refine hK.out _ _ ⟨(bC BK347.out 0).trans rfl, (bC BK347.out 1).trans rfl, (bC BK347.out 2).trans rfl, ((HB.out.cell (World.block_lt_of_cell? w _ hw357_0)).trans hw357_0)⟩ (fun hHeld => ?_)
           clear hK K
           refine norm_ (a' := ?_) ?_ ?_
           rotate_left
           ·show Act.put _ (some 16) _ = _
            simp only [Act.put, setIfInBounds_toArray, set_cons_zero, set_cons_succ, i64_w, i32_w]
            rfl
           refine one_ (i := 6) (N := some 64) #[true, true, true, true, true, true, true, false, false, false, true, false, false] rfl rfl (one_of HT_.out (by kernel_rfl)) (by decide) (fun K hK => ?_)
           refine goes_ Tryd.func61 (by kernel_rfl) rfl #[.agg #[.int .u64 x348000_2, .slice Ao51 x348001_2.length co51, .string x348002_2], .slice Ao56 t358.length co56] (by rfl) rfl rfl (by (try simp only [List.map_toArray, List.map_cons, List.map_nil]); first | done | rfl | (simp only [List.length_drop, List.length_take]; rfl) | (rw [wrap_sum2 (by assumption)]; rfl)) ?_
           with_reducible refine (r13_Add.calls k2 x348000_2 (fun k_ => ((((w.heap.size ≤ k_) ∧ (some k_ ≠ (.slice Ao42 x338001_2.length co42 : Value).ownBlock ∧ (some k_ ≠ (.slice Ao48 t351.length co48 : Value).ownBlock ∧ (k_ ≠ gb329 ∧ (k_ ≠ gb330 ∧ (k_ ≠ gb337 ∧ (k_ ≠ gb347 ∧ k_ ≠ gb356))))))) ∧ some k_ ≠ (.slice Ao56 t358.length co56 : Value).ownBlock) ∧ k_ ≠ gb367)) _ _ x348001_2 x348002_2 (fun k_ => some k_ = (.slice Ao56 t358.length co56 : Value).ownBlock) _ _ t358 t361 t362 t365 t366 _ ?side1 ?side2 A40.out).mono ?_
           (case side1 => exact Kd.N_V (HO_348001.out))
           (case side2 => exact Kd.R_V (Kd.R_tight rfl (Kd.R_types (Kd.R_types (Kd.R_types (Kd.R_types (Kd.R_types (Kd.R_types (Kd.R_apart' (Kd.R_apart' (Kd.R_apart' (HO360.out) (Kd.N_typed HO_338001.out) (by decide)) (Kd.N_typed HO_348001.out) (by decide)) (Kd.N_typed HO353.out) (by decide)) BK329.out (by decide)) BK330.out (by decide)) BK337.out (by decide)) BK347.out (by decide)) BK356.out (by decide)) BK367.out (by decide))))
           rintro e w57 ⟨v363, rfl, ho0, hb⟩
           refine ⟨_, rfl, ?_⟩
           have n0_ := Ax.mk (Kd.N_elder' (by exact Kd.N_to HO_338001.out) (Kd.N_base ho0) hb)
           have n1_ := Ax.mk (Kd.N_elder' (by exact Kd.N_to HO_348001.out) (Kd.N_base ho0) hb)
           have n2_ := Ax.mk (Kd.N_elder' (by exact Kd.N_to HO353.out) (Kd.N_base ho0) hb)
           have n3_ := Ax.mk (Kd.R_below (by exact Kd.R_to HO360.out) hb)
           have n4_ := Ax.mk (Kd.N_lower (Kd.N_mono (ok' := fun k_ => (w.heap.size ≤ k_) ∧ some k_ ≠ (.slice Ao42 x338001_2.length co42 : Value).ownBlock ∧ some k_ ≠ (.slice Ao48 t351.length co48 : Value).ownBlock ∧ k_ ≠ gb329 ∧ k_ ≠ gb330 ∧ k_ ≠ gb337 ∧ k_ ≠ gb347 ∧ k_ ≠ gb356 ∧ k_ ≠ gb367) ho0 (fun k_ hk_ => ⟨Or.elim hk_ (fun hs_ => Or.elim hs_ (fun hs_ => hs_.1.1.1) (fun hs_ => ((Kd.R_types (Kd.R_types (Kd.R_types (Kd.R_types (Kd.R_types (Kd.R_types (Kd.R_apart' (Kd.R_apart' (Kd.R_apart' (HO360.out) (Kd.N_typed HO_338001.out) (by decide)) (Kd.N_typed HO_348001.out) (by decide)) (Kd.N_typed HO353.out) (by decide)) BK329.out (by decide)) BK330.out (by decide)) BK337.out (by decide)) BK347.out (by decide)) BK356.out (by decide)) BK367.out (by decide)).1 k_ hs_.symm).1.1.1.1.1.1.1.1.1.1)) (fun hn_ => (Nat.le_trans (bS bA) hn_)), Or.elim hk_ (fun hs_ => Or.elim hs_ (fun hs_ => hs_.1.1.2.1) (fun hs_ => ((Kd.R_types (Kd.R_types (Kd.R_types (Kd.R_types (Kd.R_types (Kd.R_types (Kd.R_apart' (Kd.R_apart' (Kd.R_apart' (HO360.out) (Kd.N_typed HO_338001.out) (by decide)) (Kd.N_typed HO_348001.out) (by decide)) (Kd.N_typed HO353.out) (by decide)) BK329.out (by decide)) BK330.out (by decide)) BK337.out (by decide)) BK347.out (by decide)) BK356.out (by decide)) BK367.out (by decide)).1 k_ hs_.symm).1.1.1.1.1.1.1.1.2)) (fun hn_ => (Kd.fresh' (Kd.N_lt (by exact Kd.N_to HO_338001.out)) k_ hn_)), Or.elim hk_ (fun hs_ => Or.elim hs_ (fun hs_ => hs_.1.1.2.2.1) (fun hs_ => ((Kd.R_types (Kd.R_types (Kd.R_types (Kd.R_types (Kd.R_types (Kd.R_types (Kd.R_apart' (Kd.R_apart' (Kd.R_apart' (HO360.out) (Kd.N_typed HO_338001.out) (by decide)) (Kd.N_typed HO_348001.out) (by decide)) (Kd.N_typed HO353.out) (by decide)) BK329.out (by decide)) BK330.out (by decide)) BK337.out (by decide)) BK347.out (by decide)) BK356.out (by decide)) BK367.out (by decide)).1 k_ hs_.symm).1.1.1.1.1.1.2)) (fun hn_ => (Kd.fresh' (Kd.N_lt (by exact Kd.N_to HO353.out)) k_ hn_)), Or.elim hk_ (fun hs_ => Or.elim hs_ (fun hs_ => hs_.1.1.2.2.2.1) (fun hs_ => ((Kd.R_types (Kd.R_types (Kd.R_types (Kd.R_types (Kd.R_types (Kd.R_types (Kd.R_apart' (Kd.R_apart' (Kd.R_apart' (HO360.out) (Kd.N_typed HO_338001.out) (by decide)) (Kd.N_typed HO_348001.out) (by decide)) (Kd.N_typed HO353.out) (by decide)) BK329.out (by decide)) BK330.out (by decide)) BK337.out (by decide)) BK347.out (by decide)) BK356.out (by decide)) BK367.out (by decide)).1 k_ hs_.symm).1.1.1.1.1.2)) (fun hn_ => (Kd.freshB (g := gb329) (o := .cells #[.int .u64 x330000_2, .slice none 0 0, .string x330002_2] 66 (0, 0)) (bT BK329.out) k_ hn_)), Or.elim hk_ (fun hs_ => Or.elim hs_ (fun hs_ => hs_.1.1.2.2.2.2.1) (fun hs_ => ((Kd.R_types (Kd.R_types (Kd.R_types (Kd.R_types (Kd.R_types (Kd.R_types (Kd.R_apart' (Kd.R_apart' (Kd.R_apart' (HO360.out) (Kd.N_typed HO_338001.out) (by decide)) (Kd.N_typed HO_348001.out) (by decide)) (Kd.N_typed HO353.out) (by decide)) BK329.out (by decide)) BK330.out (by decide)) BK337.out (by decide)) BK347.out (by decide)) BK356.out (by decide)) BK367.out (by decide)).1 k_ hs_.symm).1.1.1.1.2)) (fun hn_ => (Kd.freshB (g := gb330) (o := .cells #[.int .u64 x331000_2, .slice none 0 0, .string x331002_2] 68 (0, 0)) (bT BK330.out) k_ hn_)), Or.elim hk_ (fun hs_ => Or.elim hs_ (fun hs_ => hs_.1.1.2.2.2.2.2.1) (fun hs_ => ((Kd.R_types (Kd.R_types (Kd.R_types (Kd.R_types (Kd.R_types (Kd.R_types (Kd.R_apart' (Kd.R_apart' (Kd.R_apart' (HO360.out) (Kd.N_typed HO_338001.out) (by decide)) (Kd.N_typed HO_348001.out) (by decide)) (Kd.N_typed HO353.out) (by decide)) BK329.out (by decide)) BK330.out (by decide)) BK337.out (by decide)) BK347.out (by decide)) BK356.out (by decide)) BK367.out (by decide)).1 k_ hs_.symm).1.1.1.2)) (fun hn_ => (Kd.freshB (g := gb337) (o := .cells #[.int .u64 x338000_2, .slice Ao42 x338001_2.length co42, .string x338002_2] 66 (0, 0)) (bT BK337.out) k_ hn_)), Or.elim hk_ (fun hs_ => Or.elim hs_ (fun hs_ => hs_.1.1.2.2.2.2.2.2.1) (fun hs_ => ((Kd.R_types (Kd.R_types (Kd.R_types (Kd.R_types (Kd.R_types (Kd.R_types (Kd.R_apart' (Kd.R_apart' (Kd.R_apart' (HO360.out) (Kd.N_typed HO_338001.out) (by decide)) (Kd.N_typed HO_348001.out) (by decide)) (Kd.N_typed HO353.out) (by decide)) BK329.out (by decide)) BK330.out (by decide)) BK337.out (by decide)) BK347.out (by decide)) BK356.out (by decide)) BK367.out (by decide)).1 k_ hs_.symm).1.1.2)) (fun hn_ => (Kd.freshB (g := gb347) (o := .cells #[.int .u64 x348000_2, .slice Ao51 x348001_2.length co51, .string x348002_2] 68 (0, 0)) (bT BK347.out) k_ hn_)), Or.elim hk_ (fun hs_ => Or.elim hs_ (fun hs_ => hs_.1.1.2.2.2.2.2.2.2) (fun hs_ => ((Kd.R_types (Kd.R_types (Kd.R_types (Kd.R_types (Kd.R_types (Kd.R_types (Kd.R_apart' (Kd.R_apart' (Kd.R_apart' (HO360.out) (Kd.N_typed HO_338001.out) (by decide)) (Kd.N_typed HO_348001.out) (by decide)) (Kd.N_typed HO353.out) (by decide)) BK329.out (by decide)) BK330.out (by decide)) BK337.out (by decide)) BK347.out (by decide)) BK356.out (by decide)) BK367.out (by decide)).1 k_ hs_.symm).1.2)) (fun hn_ => (Kd.freshB (g := gb356) (o := .cells #[.int .u64 t350, .slice Ao48 t351.length co48, .string t354] 66 (0, 0)) (bT BK356.out) k_ hn_)), Or.elim hk_ (fun hs_ => Or.elim hs_ (fun hs_ => hs_.2) (fun hs_ => ((Kd.R_types (Kd.R_types (Kd.R_types (Kd.R_types (Kd.R_types (Kd.R_types (Kd.R_apart' (Kd.R_apart' (Kd.R_apart' (HO360.out) (Kd.N_typed HO_338001.out) (by decide)) (Kd.N_typed HO_348001.out) (by decide)) (Kd.N_typed HO353.out) (by decide)) BK329.out (by decide)) BK330.out (by decide)) BK337.out (by decide)) BK347.out (by decide)) BK356.out (by decide)) BK367.out (by decide)).1 k_ hs_.symm).2)) (fun hn_ => (Kd.freshB (g := gb367) (o := .cells #[.int .u64 0, .slice none 0 0, .string (⟨#[]⟩ : ByteArray)] 68 (0, 0)) (bT BK367.out) k_ hn_))⟩)) (bS bA))
           have n5_ := Ax.mk (bB (bT BK329.out) hb)
           have n6_ := Ax.mk (bB (bT BK330.out) hb)
           have n7_ := Ax.mk (bB (bT BK337.out) hb)
           have n8_ := Ax.mk (bB (bT BK347.out) hb)
           have n9_ := Ax.mk (bB (bT BK356.out) hb)
           have n10_ := Ax.mk (bB (bT BK367.out) hb)
           have n11_ := Ax.mk (bP bA hb)
           clear HO_338001
           clear HO_348001
           clear HO353
           clear HO360
           clear BK329
           clear BK330
           clear BK337
           clear BK347
           clear BK356
           clear BK367
           clear HB
           have HO_338001 := n0_
           have HO_348001 := n1_
           have HO353 := n2_
           have HO360 := n3_
           have HO364 := n4_
           have BK329 := n5_
           have BK330 := n6_
           have BK337 := n7_
           have BK347 := n8_
           have BK356 := n9_
           have BK367 := n10_
           have HB := n11_
           clear n0_ n1_ n2_ n3_ n4_ n5_ n6_ n7_ n8_ n9_ n10_ n11_
           (try clear hb)
           (try clear hb2)
           (try clear hk)
           (try clear hi)
           (try clear ho0)
           refine hK.out _ _ ⟨(bC BK347.out 0).trans rfl, (bC BK347.out 1).trans rfl, (bC BK347.out 2).trans rfl, ((HB.out.cell (World.block_lt_of_cell? w _ hw357_0)).trans hw357_0)⟩ (fun hHeld => ?_)
           clear hK K
           refine norm_ (a' := ?_) ?_ ?_
           rotate_left
           ·show Act.put _ (some 64) _ = _
            simp only [Act.put, setIfInBounds_toArray, set_cons_zero, set_cons_succ, i64_w, i32_w]
            rfl
           refine pure_ (i := 7) (N := some 57) (v := ?_) (a' := ?_) #[true, true, true, true, true, true, true, true, false, false, true, false, false] rfl rfl (any_of HT_.out (by kernel_rfl)) (fun _ _ _ h => h) (Or.inl ⟨by rfl, ?_⟩) ?_ ?_
           rotate_left
           ·intro w'
            go_simp
            with_reducible rfl
           rotate_left
           ·simp only [Act.put, setIfInBounds_toArray, set_cons_zero, set_cons_succ, i64_w, i32_w]
            rfl
           refine pure_ (i := 8) (N := some 65) (v := ?_) (a' := ?_) #[true, true, true, true, true, true, true, true, true, false, true, false, false] rfl rfl (any_of HT_.out (by kernel_rfl)) (fun _ _ _ h => h) (Or.inl ⟨by rfl, ?_⟩) ?_ ?_
           rotate_left
           ·intro w'
            go_simp
            with_reducible rfl
           rotate_left
           ·simp only [Act.put, setIfInBounds_toArray, set_cons_zero, set_cons_succ, i64_w, i32_w]
            rfl
           refine pure_ (i := 9) (N := some 66) (v := ?_) (a' := ?_) #[true, true, true, true, true, true, true, true, true, true, true, false, false] rfl rfl (any_of HT_.out (by kernel_rfl)) (fun _ _ _ h => h) (Or.inl ⟨by rfl, ?_⟩) ?_ ?_
           rotate_left
           ·intro w'
            go_simp
            with_reducible rfl
           rotate_left
           ·simp only [Act.put, setIfInBounds_toArray, set_cons_zero, set_cons_succ, i64_w, i32_w]
            rfl
           exact norm_ (by simp only [putAll, Act.put, List.setIfInBounds_toArray, List.set_cons_zero, List.set_cons_succ]) (hCont (.slice Ao56 t358.length co56, v363, gb367) _ ⟨hHeld, (by apply Kd.N_to; exact Kd.N_mono HO353.out (fun _ hk => ⟨hk.1.1.1.1, ⟨hk.1.1.2, ⟨hk.2, ⟨hk.1.1.1.2.1, ⟨hk.1.1.1.2.2.1, ⟨hk.1.1.1.2.2.2.1, ⟨hk.1.1.1.2.2.2.2.1, ⟨hk.1.1.1.2.2.2.2.2.1, ⟨hk.1.1.1.2.2.2.2.2.2, hk.1.2⟩⟩⟩⟩⟩⟩⟩⟩⟩)), (by apply Kd.R_to; exact Kd.R_mono HO360.out (fun _ hk => hk.1)), (by apply Kd.N_to; exact Kd.N_mono HO364.out (fun _ hk => ⟨hk.1, ⟨hk.2.2.1, ⟨hk.2.1, ⟨hk.2.2.2.1, ⟨hk.2.2.2.2.1, ⟨hk.2.2.2.2.2.1, ⟨hk.2.2.2.2.2.2.1, ⟨hk.2.2.2.2.2.2.2.1, hk.2.2.2.2.2.2.2.2⟩⟩⟩⟩⟩⟩⟩⟩)), (by apply Kd.N_to; exact Kd.N_mono HO_338001.out (fun _ hk => ⟨hk.1.1.1.1, ⟨hk.1.1.1.2.2.1, ⟨hk.1.1.2, ⟨hk.2, ⟨hk.1.1.1.2.1, ⟨hk.1.1.1.2.2.2.1, ⟨hk.1.1.1.2.2.2.2.1, ⟨hk.1.1.1.2.2.2.2.2.1, ⟨hk.1.1.1.2.2.2.2.2.2.1, ⟨hk.1.1.1.2.2.2.2.2.2.2, hk.1.2⟩⟩⟩⟩⟩⟩⟩⟩⟩⟩)), (by apply Kd.N_to; exact Kd.N_mono HO_348001.out (fun _ hk => ⟨hk.1.1.1.1, ⟨hk.1.1.1.2.2.1, ⟨hk.1.1.2, ⟨hk.2, ⟨hk.1.1.1.2.1, ⟨hk.1.1.1.2.2.2.1, ⟨hk.1.1.1.2.2.2.2.1, ⟨hk.1.1.1.2.2.2.2.2.1, ⟨hk.1.1.1.2.2.2.2.2.2.1, ⟨hk.1.1.1.2.2.2.2.2.2.2, hk.1.2⟩⟩⟩⟩⟩⟩⟩⟩⟩⟩)), (bT BK329.out), (bT BK330.out), (bT BK337.out), (bT BK347.out), (bT BK356.out), (bT BK367.out), GW367.out, GE367.out, NB329_367.out, NB367_329.out, NB330_367.out, NB367_330.out, NB337_367.out, NB367_337.out, NB347_367.out, NB367_347.out, NB356_367.out, NB367_356.out, bA⟩)
         ·skip
          refine box_step ?hg (N := 16) ?hd (cs := #[.int .u64 0, .slice none 0 0, .string (⟨#[]⟩ : ByteArray)]) (t := 68) ?hr ?_; (case hd => rfl); (case hg => rfl); (case hr => first | (go_simp; done) | (go_simp; rfl))
          intro gb367 hg w54 hbox hb
          have n0_ := Ax.mk (Kd.N_below (Kd.N_elderB (by exact Kd.N_to HO_338001.out) gb367 (Nat.le_of_eq hg.symm)) hb)
          have n1_ := Ax.mk (Kd.N_below (Kd.N_elderB (by exact Kd.N_to HO_348001.out) gb367 (Nat.le_of_eq hg.symm)) hb)
          have n2_ := Ax.mk (Kd.N_below (Kd.N_elderB (by exact Kd.N_to HO353.out) gb367 (Nat.le_of_eq hg.symm)) hb)
          have n3_ := Ax.mk (bB (bT BK329.out) hb)
          have n4_ := Ax.mk (bB (bT BK330.out) hb)
          have n5_ := Ax.mk (bB (bT BK337.out) hb)
          have n6_ := Ax.mk (bB (bT BK347.out) hb)
          have n7_ := Ax.mk (bB (bT BK356.out) hb)
          have n8_ := Ax.mk (bP bA hb)
          have n9_ := Ax.mk (hbox)
          have n10_ := Ax.mk ((ge_new hg : w.heap.size ≤ gb367))
          have n11_ := Ax.mk ((ge_new hg : w.heap.size ≤ gb367))
          have n12_ := Ax.mk ((ne_lt hg BK329.out : gb329 ≠ gb367))
          have n13_ := Ax.mk ((ne_gt hg BK329.out : gb367 ≠ gb329))
          have n14_ := Ax.mk ((ne_lt hg BK330.out : gb330 ≠ gb367))
          have n15_ := Ax.mk ((ne_gt hg BK330.out : gb367 ≠ gb330))
          have n16_ := Ax.mk ((ne_lt hg BK337.out : gb337 ≠ gb367))
          have n17_ := Ax.mk ((ne_gt hg BK337.out : gb367 ≠ gb337))
          have n18_ := Ax.mk ((ne_lt hg BK347.out : gb347 ≠ gb367))
          have n19_ := Ax.mk ((ne_gt hg BK347.out : gb367 ≠ gb347))
          have n20_ := Ax.mk ((ne_lt hg BK356.out : gb356 ≠ gb367))
          have n21_ := Ax.mk ((ne_gt hg BK356.out : gb367 ≠ gb356))
          clear HO_338001
          clear HO_348001
          clear HO353
          clear BK329
          clear BK330
          clear BK337
          clear BK347
          clear BK356
          clear HB
          have HO_338001 := n0_
          have HO_348001 := n1_
          have HO353 := n2_
          have BK329 := n3_
          have BK330 := n4_
          have BK337 := n5_
          have BK347 := n6_
          have BK356 := n7_
          have HB := n8_
          have BK367 := n9_
          have GW367 := n10_
          have GE367 := n11_
          have NB329_367 := n12_
          have NB367_329 := n13_
          have NB330_367 := n14_
          have NB367_330 := n15_
          have NB337_367 := n16_
          have NB367_337 := n17_
          have NB347_367 := n18_
          have NB367_347 := n19_
          have NB356_367 := n20_
          have NB367_356 := n21_
          clear n0_ n1_ n2_ n3_ n4_ n5_ n6_ n7_ n8_ n9_ n10_ n11_ n12_ n13_ n14_ n15_ n16_ n17_ n18_ n19_ n20_ n21_
          clear hb hbox hg
          refine hK.out _ _ ⟨(bC BK347.out 0).trans rfl, (bC BK347.out 1).trans rfl, (bC BK347.out 2).trans rfl, ((HB.out.cell (World.block_lt_of_cell? w _ hw357_0)).trans hw357_0)⟩ (fun hHeld => ?_)
          clear hK K
          refine norm_ (a' := ?_) ?_ ?_
          rotate_left
          ·show Act.put _ (some 16) _ = _
           simp only [Act.put, setIfInBounds_toArray, set_cons_zero, set_cons_succ, i64_w, i32_w]
           rfl
          refine one_ (i := 5) (N := some 63) #[true, true, true, true, true, true, false, false, false, false, true, false, false] rfl rfl (one_of HT_.out (by kernel_rfl)) (by decide) (fun K hK => ?_)
          refine goes_ Tryd.func40 (by kernel_rfl) rfl #[.slice A357_0 (rd_L4 l2 x13_2).length c357_0] (by rfl) rfl rfl (by (try simp only [List.map_toArray, List.map_cons, List.map_nil]); first | done | rfl | (simp only [List.length_drop, List.length_take]; rfl) | (rw [wrap_sum2 (by assumption)]; rfl)) ?_
          with_reducible refine (l13_steps.calls k2 _ _ (rd_L4 l2 x13_2) t358 _ ?side1 ?side2 A39.out).mono ?_
          (case side1 => repeat (first | exact (Kd.C_below HR357_0.out HB.out) | (with_reducible refine Kd.C_alloc ?_ _) | (with_reducible refine Kd.C_drewN ?_ _) | (with_reducible refine Kd.C_drew ?_)))
          (case side2 => exact HC357_0.out)
          rintro e w55 ⟨v359, rfl, ho0, hb⟩
          refine ⟨_, rfl, ?_⟩
          have n0_ := Ax.mk (Kd.N_elder' (by exact Kd.N_to HO_338001.out) (Kd.R_base ho0) hb)
          have n1_ := Ax.mk (Kd.N_elder' (by exact Kd.N_to HO_348001.out) (Kd.R_base ho0) hb)
          have n2_ := Ax.mk (Kd.N_elder' (by exact Kd.N_to HO353.out) (Kd.R_base ho0) hb)
          have n3_ := Ax.mk (Kd.R_lower (Kd.R_newM (M := fun k_ => (w.heap.size ≤ k_)) ho0 (bS bA) (fun k_ h_ => h_)) (bS bA))
          have n4_ := Ax.mk (bB (bT BK329.out) hb)
          have n5_ := Ax.mk (bB (bT BK330.out) hb)
          have n6_ := Ax.mk (bB (bT BK337.out) hb)
          have n7_ := Ax.mk (bB (bT BK347.out) hb)
          have n8_ := Ax.mk (bB (bT BK356.out) hb)
          have n9_ := Ax.mk (bB (bT BK367.out) hb)
          have n10_ := Ax.mk (bP bA hb)
          clear HO_338001
          clear HO_348001
          clear HO353
          clear BK329
          clear BK330
          clear BK337
          clear BK347
          clear BK356
          clear BK367
          clear HB
          have HO_338001 := n0_
          have HO_348001 := n1_
          have HO353 := n2_
          have HO360 := n3_
          have BK329 := n4_
          have BK330 := n5_
          have BK337 := n6_
          have BK347 := n7_
          have BK356 := n8_
          have BK367 := n9_
          have HB := n10_
          clear n0_ n1_ n2_ n3_ n4_ n5_ n6_ n7_ n8_ n9_ n10_
          (try clear hb)
          (try clear hb2)
          (try clear hk)
          (try clear hi)
          (try clear ho0)
          obtain ⟨Ao56, co56, eo56⟩ := Kd.R_slice HO360.out
          (first | subst eo56 | (injection eo56 with f1_ f2_ f3_; have f4_ := f1_.symm; have f5_ := f3_.symm; clear f1_ f2_ f3_; subst f4_; subst f5_))
          refine hK.out _ _ ⟨(bC BK347.out 0).trans rfl, (bC BK347.out 1).trans rfl, (bC BK347.out 2).trans rfl, ((HB.out.cell (World.block_lt_of_cell? w _ hw357_0)).trans hw357_0)⟩ (fun hHeld => ?_)
          clear hK K
          refine norm_ (a' := ?_) ?_ ?_
          rotate_left
          ·show Act.put _ (some 63) _ = _
           simp only [Act.put, setIfInBounds_toArray, set_cons_zero, set_cons_succ, i64_w, i32_w]
           rfl
          refine one_ (i := 6) (N := some 64) #[true, true, true, true, true, true, true, false, false, false, true, false, false] rfl rfl (one_of HT_.out (by kernel_rfl)) (by decide) (fun K hK => ?_)
          refine goes_ Tryd.func61 (by kernel_rfl) rfl #[.agg #[.int .u64 x348000_2, .slice Ao51 x348001_2.length co51, .string x348002_2], .slice Ao56 t358.length co56] (by rfl) rfl rfl (by (try simp only [List.map_toArray, List.map_cons, List.map_nil]); first | done | rfl | (simp only [List.length_drop, List.length_take]; rfl) | (rw [wrap_sum2 (by assumption)]; rfl)) ?_
          with_reducible refine (r13_Add.calls k2 x348000_2 (fun k_ => ((((w.heap.size ≤ k_) ∧ (some k_ ≠ (.slice Ao42 x338001_2.length co42 : Value).ownBlock ∧ (some k_ ≠ (.slice Ao48 t351.length co48 : Value).ownBlock ∧ (k_ ≠ gb329 ∧ (k_ ≠ gb330 ∧ (k_ ≠ gb337 ∧ (k_ ≠ gb347 ∧ k_ ≠ gb356))))))) ∧ k_ ≠ gb367) ∧ some k_ ≠ (.slice Ao56 t358.length co56 : Value).ownBlock)) _ _ x348001_2 x348002_2 (fun k_ => some k_ = (.slice Ao56 t358.length co56 : Value).ownBlock) _ _ t358 t361 t362 t365 t366 _ ?side1 ?side2 A40.out).mono ?_
          (case side1 => exact Kd.N_V (HO_348001.out))
          (case side2 => exact Kd.R_V (Kd.R_tight rfl (Kd.R_types (Kd.R_types (Kd.R_types (Kd.R_types (Kd.R_types (Kd.R_types (Kd.R_apart' (Kd.R_apart' (Kd.R_apart' (HO360.out) (Kd.N_typed HO_338001.out) (by decide)) (Kd.N_typed HO_348001.out) (by decide)) (Kd.N_typed HO353.out) (by decide)) BK329.out (by decide)) BK330.out (by decide)) BK337.out (by decide)) BK347.out (by decide)) BK356.out (by decide)) BK367.out (by decide))))
          rintro e w57 ⟨v363, rfl, ho0, hb⟩
          refine ⟨_, rfl, ?_⟩
          have n0_ := Ax.mk (Kd.N_elder' (by exact Kd.N_to HO_338001.out) (Kd.N_base ho0) hb)
          have n1_ := Ax.mk (Kd.N_elder' (by exact Kd.N_to HO_348001.out) (Kd.N_base ho0) hb)
          have n2_ := Ax.mk (Kd.N_elder' (by exact Kd.N_to HO353.out) (Kd.N_base ho0) hb)
          have n3_ := Ax.mk (Kd.R_below (by exact Kd.R_to HO360.out) hb)
          have n4_ := Ax.mk (Kd.N_lower (Kd.N_mono (ok' := fun k_ => (w.heap.size ≤ k_) ∧ some k_ ≠ (.slice Ao42 x338001_2.length co42 : Value).ownBlock ∧ some k_ ≠ (.slice Ao48 t351.length co48 : Value).ownBlock ∧ k_ ≠ gb329 ∧ k_ ≠ gb330 ∧ k_ ≠ gb337 ∧ k_ ≠ gb347 ∧ k_ ≠ gb356 ∧ k_ ≠ gb367) ho0 (fun k_ hk_ => ⟨Or.elim hk_ (fun hs_ => Or.elim hs_ (fun hs_ => hs_.1.1.1) (fun hs_ => ((Kd.R_types (Kd.R_types (Kd.R_types (Kd.R_types (Kd.R_types (Kd.R_types (Kd.R_apart' (Kd.R_apart' (Kd.R_apart' (HO360.out) (Kd.N_typed HO_338001.out) (by decide)) (Kd.N_typed HO_348001.out) (by decide)) (Kd.N_typed HO353.out) (by decide)) BK329.out (by decide)) BK330.out (by decide)) BK337.out (by decide)) BK347.out (by decide)) BK356.out (by decide)) BK367.out (by decide)).1 k_ hs_.symm).1.1.1.1.1.1.1.1.1.1)) (fun hn_ => (Nat.le_trans (bS bA) hn_)), Or.elim hk_ (fun hs_ => Or.elim hs_ (fun hs_ => hs_.1.1.2.1) (fun hs_ => ((Kd.R_types (Kd.R_types (Kd.R_types (Kd.R_types (Kd.R_types (Kd.R_types (Kd.R_apart' (Kd.R_apart' (Kd.R_apart' (HO360.out) (Kd.N_typed HO_338001.out) (by decide)) (Kd.N_typed HO_348001.out) (by decide)) (Kd.N_typed HO353.out) (by decide)) BK329.out (by decide)) BK330.out (by decide)) BK337.out (by decide)) BK347.out (by decide)) BK356.out (by decide)) BK367.out (by decide)).1 k_ hs_.symm).1.1.1.1.1.1.1.1.2)) (fun hn_ => (Kd.fresh' (Kd.N_lt (by exact Kd.N_to HO_338001.out)) k_ hn_)), Or.elim hk_ (fun hs_ => Or.elim hs_ (fun hs_ => hs_.1.1.2.2.1) (fun hs_ => ((Kd.R_types (Kd.R_types (Kd.R_types (Kd.R_types (Kd.R_types (Kd.R_types (Kd.R_apart' (Kd.R_apart' (Kd.R_apart' (HO360.out) (Kd.N_typed HO_338001.out) (by decide)) (Kd.N_typed HO_348001.out) (by decide)) (Kd.N_typed HO353.out) (by decide)) BK329.out (by decide)) BK330.out (by decide)) BK337.out (by decide)) BK347.out (by decide)) BK356.out (by decide)) BK367.out (by decide)).1 k_ hs_.symm).1.1.1.1.1.1.2)) (fun hn_ => (Kd.fresh' (Kd.N_lt (by exact Kd.N_to HO353.out)) k_ hn_)), Or.elim hk_ (fun hs_ => Or.elim hs_ (fun hs_ => hs_.1.1.2.2.2.1) (fun hs_ => ((Kd.R_types (Kd.R_types (Kd.R_types (Kd.R_types (Kd.R_types (Kd.R_types (Kd.R_apart' (Kd.R_apart' (Kd.R_apart' (HO360.out) (Kd.N_typed HO_338001.out) (by decide)) (Kd.N_typed HO_348001.out) (by decide)) (Kd.N_typed HO353.out) (by decide)) BK329.out (by decide)) BK330.out (by decide)) BK337.out (by decide)) BK347.out (by decide)) BK356.out (by decide)) BK367.out (by decide)).1 k_ hs_.symm).1.1.1.1.1.2)) (fun hn_ => (Kd.freshB (g := gb329) (o := .cells #[.int .u64 x330000_2, .slice none 0 0, .string x330002_2] 66 (0, 0)) (bT BK329.out) k_ hn_)), Or.elim hk_ (fun hs_ => Or.elim hs_ (fun hs_ => hs_.1.1.2.2.2.2.1) (fun hs_ => ((Kd.R_types (Kd.R_types (Kd.R_types (Kd.R_types (Kd.R_types (Kd.R_types (Kd.R_apart' (Kd.R_apart' (Kd.R_apart' (HO360.out) (Kd.N_typed HO_338001.out) (by decide)) (Kd.N_typed HO_348001.out) (by decide)) (Kd.N_typed HO353.out) (by decide)) BK329.out (by decide)) BK330.out (by decide)) BK337.out (by decide)) BK347.out (by decide)) BK356.out (by decide)) BK367.out (by decide)).1 k_ hs_.symm).1.1.1.1.2)) (fun hn_ => (Kd.freshB (g := gb330) (o := .cells #[.int .u64 x331000_2, .slice none 0 0, .string x331002_2] 68 (0, 0)) (bT BK330.out) k_ hn_)), Or.elim hk_ (fun hs_ => Or.elim hs_ (fun hs_ => hs_.1.1.2.2.2.2.2.1) (fun hs_ => ((Kd.R_types (Kd.R_types (Kd.R_types (Kd.R_types (Kd.R_types (Kd.R_types (Kd.R_apart' (Kd.R_apart' (Kd.R_apart' (HO360.out) (Kd.N_typed HO_338001.out) (by decide)) (Kd.N_typed HO_348001.out) (by decide)) (Kd.N_typed HO353.out) (by decide)) BK329.out (by decide)) BK330.out (by decide)) BK337.out (by decide)) BK347.out (by decide)) BK356.out (by decide)) BK367.out (by decide)).1 k_ hs_.symm).1.1.1.2)) (fun hn_ => (Kd.freshB (g := gb337) (o := .cells #[.int .u64 x338000_2, .slice Ao42 x338001_2.length co42, .string x338002_2] 66 (0, 0)) (bT BK337.out) k_ hn_)), Or.elim hk_ (fun hs_ => Or.elim hs_ (fun hs_ => hs_.1.1.2.2.2.2.2.2.1) (fun hs_ => ((Kd.R_types (Kd.R_types (Kd.R_types (Kd.R_types (Kd.R_types (Kd.R_types (Kd.R_apart' (Kd.R_apart' (Kd.R_apart' (HO360.out) (Kd.N_typed HO_338001.out) (by decide)) (Kd.N_typed HO_348001.out) (by decide)) (Kd.N_typed HO353.out) (by decide)) BK329.out (by decide)) BK330.out (by decide)) BK337.out (by decide)) BK347.out (by decide)) BK356.out (by decide)) BK367.out (by decide)).1 k_ hs_.symm).1.1.2)) (fun hn_ => (Kd.freshB (g := gb347) (o := .cells #[.int .u64 x348000_2, .slice Ao51 x348001_2.length co51, .string x348002_2] 68 (0, 0)) (bT BK347.out) k_ hn_)), Or.elim hk_ (fun hs_ => Or.elim hs_ (fun hs_ => hs_.1.1.2.2.2.2.2.2.2) (fun hs_ => ((Kd.R_types (Kd.R_types (Kd.R_types (Kd.R_types (Kd.R_types (Kd.R_types (Kd.R_apart' (Kd.R_apart' (Kd.R_apart' (HO360.out) (Kd.N_typed HO_338001.out) (by decide)) (Kd.N_typed HO_348001.out) (by decide)) (Kd.N_typed HO353.out) (by decide)) BK329.out (by decide)) BK330.out (by decide)) BK337.out (by decide)) BK347.out (by decide)) BK356.out (by decide)) BK367.out (by decide)).1 k_ hs_.symm).1.2)) (fun hn_ => (Kd.freshB (g := gb356) (o := .cells #[.int .u64 t350, .slice Ao48 t351.length co48, .string t354] 66 (0, 0)) (bT BK356.out) k_ hn_)), Or.elim hk_ (fun hs_ => Or.elim hs_ (fun hs_ => hs_.1.2) (fun hs_ => ((Kd.R_types (Kd.R_types (Kd.R_types (Kd.R_types (Kd.R_types (Kd.R_types (Kd.R_apart' (Kd.R_apart' (Kd.R_apart' (HO360.out) (Kd.N_typed HO_338001.out) (by decide)) (Kd.N_typed HO_348001.out) (by decide)) (Kd.N_typed HO353.out) (by decide)) BK329.out (by decide)) BK330.out (by decide)) BK337.out (by decide)) BK347.out (by decide)) BK356.out (by decide)) BK367.out (by decide)).1 k_ hs_.symm).2)) (fun hn_ => (Kd.freshB (g := gb367) (o := .cells #[.int .u64 0, .slice none 0 0, .string (⟨#[]⟩ : ByteArray)] 68 (0, 0)) (bT BK367.out) k_ hn_))⟩)) (bS bA))
          have n5_ := Ax.mk (bB (bT BK329.out) hb)
          have n6_ := Ax.mk (bB (bT BK330.out) hb)
          have n7_ := Ax.mk (bB (bT BK337.out) hb)
          have n8_ := Ax.mk (bB (bT BK347.out) hb)
          have n9_ := Ax.mk (bB (bT BK356.out) hb)
          have n10_ := Ax.mk (bB (bT BK367.out) hb)
          have n11_ := Ax.mk (bP bA hb)
          clear HO_338001
          clear HO_348001
          clear HO353
          clear HO360
          clear BK329
          clear BK330
          clear BK337
          clear BK347
          clear BK356
          clear BK367
          clear HB
          have HO_338001 := n0_
          have HO_348001 := n1_
          have HO353 := n2_
          have HO360 := n3_
          have HO364 := n4_
          have BK329 := n5_
          have BK330 := n6_
          have BK337 := n7_
          have BK347 := n8_
          have BK356 := n9_
          have BK367 := n10_
          have HB := n11_
          clear n0_ n1_ n2_ n3_ n4_ n5_ n6_ n7_ n8_ n9_ n10_ n11_
          (try clear hb)
          (try clear hb2)
          (try clear hk)
          (try clear hi)
          (try clear ho0)
          refine hK.out _ _ ⟨(bC BK347.out 0).trans rfl, (bC BK347.out 1).trans rfl, (bC BK347.out 2).trans rfl, ((HB.out.cell (World.block_lt_of_cell? w _ hw357_0)).trans hw357_0)⟩ (fun hHeld => ?_)
          clear hK K
          refine norm_ (a' := ?_) ?_ ?_
          rotate_left
          ·show Act.put _ (some 64) _ = _
           simp only [Act.put, setIfInBounds_toArray, set_cons_zero, set_cons_succ, i64_w, i32_w]
           rfl
          refine pure_ (i := 7) (N := some 57) (v := ?_) (a' := ?_) #[true, true, true, true, true, true, true, true, false, false, true, false, false] rfl rfl (any_of HT_.out (by kernel_rfl)) (fun _ _ _ h => h) (Or.inl ⟨by rfl, ?_⟩) ?_ ?_
          rotate_left
          ·intro w'
           go_simp
           with_reducible rfl
          rotate_left
          ·simp only [Act.put, setIfInBounds_toArray, set_cons_zero, set_cons_succ, i64_w, i32_w]
           rfl
          refine pure_ (i := 8) (N := some 65) (v := ?_) (a' := ?_) #[true, true, true, true, true, true, true, true, true, false, true, false, false] rfl rfl (any_of HT_.out (by kernel_rfl)) (fun _ _ _ h => h) (Or.inl ⟨by rfl, ?_⟩) ?_ ?_
          rotate_left
          ·intro w'
           go_simp
           with_reducible rfl
          rotate_left
          ·simp only [Act.put, setIfInBounds_toArray, set_cons_zero, set_cons_succ, i64_w, i32_w]
           rfl
          refine pure_ (i := 9) (N := some 66) (v := ?_) (a' := ?_) #[true, true, true, true, true, true, true, true, true, true, true, false, false] rfl rfl (any_of HT_.out (by kernel_rfl)) (fun _ _ _ h => h) (Or.inl ⟨by rfl, ?_⟩) ?_ ?_
          rotate_left
          ·intro w'
           go_simp
           with_reducible rfl
          rotate_left
          ·simp only [Act.put, setIfInBounds_toArray, set_cons_zero, set_cons_succ, i64_w, i32_w]
           rfl
          exact norm_ (by simp only [putAll, Act.put, List.setIfInBounds_toArray, List.set_cons_zero, List.set_cons_succ]) (hCont (.slice Ao56 t358.length co56, v363, gb367) _ ⟨hHeld, (by apply Kd.N_to; exact Kd.N_mono HO353.out (fun _ hk => ⟨hk.1.1.1.1, ⟨hk.1.2, ⟨hk.2, ⟨hk.1.1.1.2.1, ⟨hk.1.1.1.2.2.1, ⟨hk.1.1.1.2.2.2.1, ⟨hk.1.1.1.2.2.2.2.1, ⟨hk.1.1.1.2.2.2.2.2.1, ⟨hk.1.1.1.2.2.2.2.2.2, hk.1.1.2⟩⟩⟩⟩⟩⟩⟩⟩⟩)), (by apply Kd.R_to; exact Kd.R_mono HO360.out (fun _ hk => hk.1)), (by apply Kd.N_to; exact Kd.N_mono HO364.out (fun _ hk => ⟨hk.1, ⟨hk.2.2.1, ⟨hk.2.1, ⟨hk.2.2.2.1, ⟨hk.2.2.2.2.1, ⟨hk.2.2.2.2.2.1, ⟨hk.2.2.2.2.2.2.1, ⟨hk.2.2.2.2.2.2.2.1, hk.2.2.2.2.2.2.2.2⟩⟩⟩⟩⟩⟩⟩⟩)), (by apply Kd.N_to; exact Kd.N_mono HO_338001.out (fun _ hk => ⟨hk.1.1.1.1, ⟨hk.1.1.1.2.2.1, ⟨hk.1.2, ⟨hk.2, ⟨hk.1.1.1.2.1, ⟨hk.1.1.1.2.2.2.1, ⟨hk.1.1.1.2.2.2.2.1, ⟨hk.1.1.1.2.2.2.2.2.1, ⟨hk.1.1.1.2.2.2.2.2.2.1, ⟨hk.1.1.1.2.2.2.2.2.2.2, hk.1.1.2⟩⟩⟩⟩⟩⟩⟩⟩⟩⟩)), (by apply Kd.N_to; exact Kd.N_mono HO_348001.out (fun _ hk => ⟨hk.1.1.1.1, ⟨hk.1.1.1.2.2.1, ⟨hk.1.2, ⟨hk.2, ⟨hk.1.1.1.2.1, ⟨hk.1.1.1.2.2.2.1, ⟨hk.1.1.1.2.2.2.2.1, ⟨hk.1.1.1.2.2.2.2.2.1, ⟨hk.1.1.1.2.2.2.2.2.2.1, ⟨hk.1.1.1.2.2.2.2.2.2.2, hk.1.1.2⟩⟩⟩⟩⟩⟩⟩⟩⟩⟩)), (bT BK329.out), (bT BK330.out), (bT BK337.out), (bT BK347.out), (bT BK356.out), (bT BK367.out), GW367.out, GE367.out, NB329_367.out, NB367_329.out, NB330_367.out, NB367_330.out, NB337_367.out, NB367_337.out, NB347_367.out, NB367_347.out, NB356_367.out, NB367_356.out, bA⟩)
        rintro ⟨v359, v363, gb367⟩ w58 ⟨hS_, h0_, h1_, h2_, h3_, h4_, h5_, h6_, h7_, h8_, h9_, h10_, h11_, h12_, h13_, h14_, h15_, h16_, h17_, h18_, h19_, h20_, h21_, h22_, h23_⟩
        have n0_ : Ax (Kd.N k44 44 w58 w.heap.size (fun k_ => (w.heap.size ≤ k_) ∧ some k_ ≠ (v359 : Value).ownBlock ∧ some k_ ≠ (v363 : Value).ownBlock ∧ some k_ ≠ (.slice Ao51 x348001_2.length co51 : Value).ownBlock ∧ k_ ≠ gb329 ∧ k_ ≠ gb330 ∧ k_ ≠ gb337 ∧ k_ ≠ gb347 ∧ k_ ≠ gb356 ∧ k_ ≠ gb367) (.slice Ao48 t351.length co48) t351) := ⟨h0_⟩
        have n1_ : Ax (Kd.R k26 26 w58 w.heap.size (fun k_ => (w.heap.size ≤ k_)) v359 t358) := ⟨h1_⟩
        have n2_ : Ax (Kd.N k46 46 w58 w.heap.size (fun k_ => (w.heap.size ≤ k_) ∧ some k_ ≠ (.slice Ao48 t351.length co48 : Value).ownBlock ∧ some k_ ≠ (.slice Ao42 x338001_2.length co42 : Value).ownBlock ∧ k_ ≠ gb329 ∧ k_ ≠ gb330 ∧ k_ ≠ gb337 ∧ k_ ≠ gb347 ∧ k_ ≠ gb356 ∧ k_ ≠ gb367) v363 t362) := ⟨h2_⟩
        have n3_ : Ax (Kd.N k44 44 w58 w.heap.size (fun k_ => (w.heap.size ≤ k_) ∧ some k_ ≠ (.slice Ao48 t351.length co48 : Value).ownBlock ∧ some k_ ≠ (v359 : Value).ownBlock ∧ some k_ ≠ (v363 : Value).ownBlock ∧ some k_ ≠ (.slice Ao51 x348001_2.length co51 : Value).ownBlock ∧ k_ ≠ gb329 ∧ k_ ≠ gb330 ∧ k_ ≠ gb337 ∧ k_ ≠ gb347 ∧ k_ ≠ gb356 ∧ k_ ≠ gb367) (.slice Ao42 x338001_2.length co42) x338001_2) := ⟨h3_⟩
        have n4_ : Ax (Kd.N k46 46 w58 w.heap.size (fun k_ => (w.heap.size ≤ k_) ∧ some k_ ≠ (.slice Ao48 t351.length co48 : Value).ownBlock ∧ some k_ ≠ (v359 : Value).ownBlock ∧ some k_ ≠ (v363 : Value).ownBlock ∧ some k_ ≠ (.slice Ao42 x338001_2.length co42 : Value).ownBlock ∧ k_ ≠ gb329 ∧ k_ ≠ gb330 ∧ k_ ≠ gb337 ∧ k_ ≠ gb347 ∧ k_ ≠ gb356 ∧ k_ ≠ gb367) (.slice Ao51 x348001_2.length co51) x348001_2) := ⟨h4_⟩
        have n5_ : Ax (w58.heap[gb329]? = some (.cells #[.int .u64 x330000_2, .slice none 0 0, .string x330002_2] 66 (0, 0))) := ⟨h5_⟩
        have n6_ : Ax (w58.heap[gb330]? = some (.cells #[.int .u64 x331000_2, .slice none 0 0, .string x331002_2] 68 (0, 0))) := ⟨h6_⟩
        have n7_ : Ax (w58.heap[gb337]? = some (.cells #[.int .u64 x338000_2, .slice Ao42 x338001_2.length co42, .string x338002_2] 66 (0, 0))) := ⟨h7_⟩
        have n8_ : Ax (w58.heap[gb347]? = some (.cells #[.int .u64 x348000_2, .slice Ao51 x348001_2.length co51, .string x348002_2] 68 (0, 0))) := ⟨h8_⟩
        have n9_ : Ax (w58.heap[gb356]? = some (.cells #[.int .u64 t350, .slice Ao48 t351.length co48, .string t354] 66 (0, 0))) := ⟨h9_⟩
        have n10_ : Ax (w58.heap[gb367]? = some (.cells #[.int .u64 0, .slice none 0 0, .string (⟨#[]⟩ : ByteArray)] 68 (0, 0))) := ⟨h10_⟩
        have n11_ : Ax (w.heap.size ≤ gb367) := ⟨h11_⟩
        have n12_ : Ax (w.heap.size ≤ gb367) := ⟨h12_⟩
        have n13_ : Ax (gb329 ≠ gb367) := ⟨h13_⟩
        have n14_ : Ax (gb367 ≠ gb329) := ⟨h14_⟩
        have n15_ : Ax (gb330 ≠ gb367) := ⟨h15_⟩
        have n16_ : Ax (gb367 ≠ gb330) := ⟨h16_⟩
        have n17_ : Ax (gb337 ≠ gb367) := ⟨h17_⟩
        have n18_ : Ax (gb367 ≠ gb337) := ⟨h18_⟩
        have n19_ : Ax (gb347 ≠ gb367) := ⟨h19_⟩
        have n20_ : Ax (gb367 ≠ gb347) := ⟨h20_⟩
        have n21_ : Ax (gb356 ≠ gb367) := ⟨h21_⟩
        have n22_ : Ax (gb367 ≠ gb356) := ⟨h22_⟩
        have n23_ : Ax (Below w.heap.size w w58) := ⟨h23_⟩
        clear HO_338001
        clear HO_348001
        clear HO353
        clear BK329
        clear BK330
        clear BK337
        clear BK347
        clear BK356
        clear HB
        clear h0_ h1_ h2_ h3_ h4_ h5_ h6_ h7_ h8_ h9_ h10_ h11_ h12_ h13_ h14_ h15_ h16_ h17_ h18_ h19_ h20_ h21_ h22_ h23_
        have HO353 := n0_
        have HO360 := n1_
        have HO364 := n2_
        have HO_338001 := n3_
        have HO_348001 := n4_
        have BK329 := n5_
        have BK330 := n6_
        have BK337 := n7_
        have BK347 := n8_
        have BK356 := n9_
        have BK367 := n10_
        have GW367 := n11_
        have GE367 := n12_
        have NB329_367 := n13_
        have NB367_329 := n14_
        have NB330_367 := n15_
        have NB367_330 := n16_
        have NB337_367 := n17_
        have NB367_337 := n18_
        have NB347_367 := n19_
        have NB367_347 := n20_
        have NB356_367 := n21_
        have NB367_356 := n22_
        have HB := n23_
        clear n0_ n1_ n2_ n3_ n4_ n5_ n6_ n7_ n8_ n9_ n10_ n11_ n12_ n13_ n14_ n15_ n16_ n17_ n18_ n19_ n20_ n21_ n22_ n23_
        have hHeld : w58.cell? ⟨gb347, 0, none⟩ = some (.int .u64 x348000_2) ∧ w58.cell? ⟨gb347, 1, none⟩ = some (.slice Ao51 x348001_2.length co51) ∧ w58.cell? ⟨gb347, 2, none⟩ = some (.string x348002_2) ∧ w58.cell? (ad349.add (x13_2).toNat) = some (.slice A357_0 (rd_L4 l2 x13_2).length c357_0) := hS_
        obtain ⟨Ao60, co60, eo60⟩ := Kd.N_slice HO364.out
        (first | subst eo60 | (injection eo60 with f1_ f2_ f3_; have f4_ := f1_.symm; have f5_ := f3_.symm; clear f1_ f2_ f3_; subst f4_; subst f5_))
        refine norm_ (a' := ?_) ?_ ?_
        rotate_left
        ·simp only [putAll, Act.put, List.setIfInBounds_toArray, List.set_cons_zero, List.set_cons_succ]
         rfl
        refine one_ (i := 11) (N := none) #[true, true, true, true, true, true, true, true, true, true, true, true, false] rfl rfl (one_of HT_.out (by kernel_rfl)) (by decide) (fun K hK => ?_)
        have hs59 : w58.cell? ⟨gb367, 0, none⟩ = some (.int .u64 0) := (bC BK367.out 0).trans rfl
        have hfs59 := bF BK367.out 0
        have hns59_0 := NB329_367.out
        have hns59_1 := NB330_367.out
        have hns59_2 := NB337_367.out
        have hns59_3 := NB347_367.out
        have hns59_4 := NB356_367.out
        have hms59_0 := NB367_329.out
        have hms59_1 := NB367_330.out
        have hms59_2 := NB367_337.out
        have hms59_3 := NB367_347.out
        have hms59_4 := NB367_356.out
        have hs61 : w58.cell? ⟨gb367, 1, none⟩ = some (.slice none 0 0) := (bC BK367.out 1).trans rfl
        have hfs61 := bF BK367.out 1
        have hns61_0 := NB329_367.out
        have hns61_1 := NB330_367.out
        have hns61_2 := NB337_367.out
        have hns61_3 := NB347_367.out
        have hns61_4 := NB356_367.out
        have hms61_0 := NB367_329.out
        have hms61_1 := NB367_330.out
        have hms61_2 := NB367_337.out
        have hms61_3 := NB367_347.out
        have hms61_4 := NB367_356.out
        have hs62 : w58.cell? ⟨gb367, 2, none⟩ = some (.string (⟨#[]⟩ : ByteArray)) := (bC BK367.out 2).trans rfl
        have hfs62 := bF BK367.out 2
        have hns62_0 := NB329_367.out
        have hns62_1 := NB330_367.out
        have hns62_2 := NB337_367.out
        have hns62_3 := NB347_367.out
        have hns62_4 := NB356_367.out
        have hms62_0 := NB367_329.out
        have hms62_1 := NB367_330.out
        have hms62_2 := NB367_337.out
        have hms62_3 := NB367_347.out
        have hms62_4 := NB367_356.out
        refine skip_ (w1 := ?_) (by rfl) rfl ?_ ?_
        rotate_left
        ·go_simp
         rfl
        refine hK.out _ _ ⟨((cell_far (p := ⟨gb367, _, none⟩) NB347_367.out _).trans (((cell_far (p := ⟨gb367, _, none⟩) NB347_367.out _).trans (((cell_far (p := ⟨gb367, _, none⟩) NB347_367.out _).trans (hHeld.1)))))), ((cell_far (p := ⟨gb367, _, none⟩) NB347_367.out _).trans (((cell_far (p := ⟨gb367, _, none⟩) NB347_367.out _).trans (((cell_far (p := ⟨gb367, _, none⟩) NB347_367.out _).trans (hHeld.2.1)))))), ((cell_far (p := ⟨gb367, _, none⟩) NB347_367.out _).trans (((cell_far (p := ⟨gb367, _, none⟩) NB347_367.out _).trans (((cell_far (p := ⟨gb367, _, none⟩) NB347_367.out _).trans (hHeld.2.2.1)))))), ((cell_far (p := ⟨gb367, _, none⟩) (by first | exact Nat.ne_of_lt (Nat.lt_of_lt_of_le (by have := World.block_lt_of_cell? _ _ hw357_0; first | rwa [add_block] at this | exact this) GW367.out) | (rw [add_block]; exact Nat.ne_of_lt (Nat.lt_of_lt_of_le (by have := World.block_lt_of_cell? _ _ hw357_0; first | rwa [add_block] at this | exact this) GW367.out)) | (show (Addr.add _ _).block ≠ _; rw [add_block]; exact Nat.ne_of_lt (Nat.lt_of_lt_of_le (by have := World.block_lt_of_cell? _ _ hw357_0; first | rwa [add_block] at this | exact this) GW367.out)) | (dsimp only; exact Nat.ne_of_lt (Nat.lt_of_lt_of_le (by have := World.block_lt_of_cell? _ _ hw357_0; first | rwa [add_block] at this | exact this) GW367.out))) _).trans (((cell_far (p := ⟨gb367, _, none⟩) (by first | exact Nat.ne_of_lt (Nat.lt_of_lt_of_le (by have := World.block_lt_of_cell? _ _ hw357_0; first | rwa [add_block] at this | exact this) GW367.out) | (rw [add_block]; exact Nat.ne_of_lt (Nat.lt_of_lt_of_le (by have := World.block_lt_of_cell? _ _ hw357_0; first | rwa [add_block] at this | exact this) GW367.out)) | (show (Addr.add _ _).block ≠ _; rw [add_block]; exact Nat.ne_of_lt (Nat.lt_of_lt_of_le (by have := World.block_lt_of_cell? _ _ hw357_0; first | rwa [add_block] at this | exact this) GW367.out)) | (dsimp only; exact Nat.ne_of_lt (Nat.lt_of_lt_of_le (by have := World.block_lt_of_cell? _ _ hw357_0; first | rwa [add_block] at this | exact this) GW367.out))) _).trans (((cell_far (p := ⟨gb367, _, none⟩) (by first | exact Nat.ne_of_lt (Nat.lt_of_lt_of_le (by have := World.block_lt_of_cell? _ _ hw357_0; first | rwa [add_block] at this | exact this) GW367.out) | (rw [add_block]; exact Nat.ne_of_lt (Nat.lt_of_lt_of_le (by have := World.block_lt_of_cell? _ _ hw357_0; first | rwa [add_block] at this | exact this) GW367.out)) | (show (Addr.add _ _).block ≠ _; rw [add_block]; exact Nat.ne_of_lt (Nat.lt_of_lt_of_le (by have := World.block_lt_of_cell? _ _ hw357_0; first | rwa [add_block] at this | exact this) GW367.out)) | (dsimp only; exact Nat.ne_of_lt (Nat.lt_of_lt_of_le (by have := World.block_lt_of_cell? _ _ hw357_0; first | rwa [add_block] at this | exact this) GW367.out))) _).trans (hHeld.2.2.2))))))⟩ (fun hHeld => ?_)
        clear hK K
        refine pure_ (i := 12) (N := some 17) (v := ?_) (a' := ?_) #[true, true, true, true, true, true, true, true, true, true, true, true, true] rfl rfl (any_of HT_.out (by kernel_rfl)) (fun _ _ _ h => h) (Or.inl ⟨by rfl, ?_⟩) ?_ ?_
        rotate_left
        ·intro w'
         go_simp
         with_reducible rfl
        rotate_left
        ·simp only [Act.put, setIfInBounds_toArray, set_cons_zero, set_cons_succ, i64_w, i32_w]
         rfl
        refine done_ (done_of HT_.out (by kernel_rfl)) ?_
        go_upto_region 10 with (fail)
        go_cut [75] (fun v75 wc => ∃ (kq : Nat) (x75_40 : Bool), v75 = .bool x75_40 ∧ Ax (l13_built.j2 kq l2 x13_2 t355 x75_40 x338000_2 x338001_2 x338002_2 x348000_2 x348001_2 x348002_2 t350 t351 t354 t361 t362 t365 = some (r1, r2, r3, r4, r5, r6, r7)) ∧ Ax (kq ≤ k2) ∧ Ax (Kd.N k44 44 wc w.heap.size (fun k_ => (w.heap.size ≤ k_) ∧ some k_ ≠ ((.slice Ao51 x348001_2.length co51) : Value).ownBlock ∧ some k_ ≠ ((.slice Ao48 t351.length co48) : Value).ownBlock ∧ some k_ ≠ ((.slice Ao60 t362.length co60) : Value).ownBlock ∧ k_ ≠ gb329 ∧ k_ ≠ gb330 ∧ k_ ≠ gb337 ∧ k_ ≠ gb347 ∧ k_ ≠ gb356 ∧ k_ ≠ gb367) (.slice Ao42 x338001_2.length co42) x338001_2) ∧ Ax (Kd.N k46 46 wc w.heap.size (fun k_ => (w.heap.size ≤ k_) ∧ some k_ ≠ ((.slice Ao42 x338001_2.length co42) : Value).ownBlock ∧ some k_ ≠ ((.slice Ao48 t351.length co48) : Value).ownBlock ∧ some k_ ≠ ((.slice Ao60 t362.length co60) : Value).ownBlock ∧ k_ ≠ gb329 ∧ k_ ≠ gb330 ∧ k_ ≠ gb337 ∧ k_ ≠ gb347 ∧ k_ ≠ gb356 ∧ k_ ≠ gb367) (.slice Ao51 x348001_2.length co51) x348001_2) ∧ Ax (Kd.N k44 44 wc w.heap.size (fun k_ => (w.heap.size ≤ k_) ∧ some k_ ≠ ((.slice Ao51 x348001_2.length co51) : Value).ownBlock ∧ some k_ ≠ ((.slice Ao60 t362.length co60) : Value).ownBlock ∧ k_ ≠ gb329 ∧ k_ ≠ gb330 ∧ k_ ≠ gb337 ∧ k_ ≠ gb347 ∧ k_ ≠ gb356 ∧ k_ ≠ gb367) (.slice Ao48 t351.length co48) t351) ∧ Ax (Kd.N k46 46 wc w.heap.size (fun k_ => (w.heap.size ≤ k_) ∧ some k_ ≠ ((.slice Ao42 x338001_2.length co42) : Value).ownBlock ∧ some k_ ≠ ((.slice Ao48 t351.length co48) : Value).ownBlock ∧ k_ ≠ gb329 ∧ k_ ≠ gb330 ∧ k_ ≠ gb337 ∧ k_ ≠ gb347 ∧ k_ ≠ gb356 ∧ k_ ≠ gb367) (.slice Ao60 t362.length co60) t362) ∧ Ax (wc.heap[gb329]? = some (.cells #[.int .u64 x330000_2, (.slice none 0 0), .string x330002_2] 66 (0, 0))) ∧ Ax (wc.heap[gb330]? = some (.cells #[.int .u64 x331000_2, (.slice none 0 0), .string x331002_2] 68 (0, 0))) ∧ Ax (wc.heap[gb337]? = some (.cells #[.int .u64 x338000_2, (.slice Ao42 x338001_2.length co42), .string x338002_2] 66 (0, 0))) ∧ Ax (wc.heap[gb347]? = some (.cells #[.int .u64 x348000_2, (.slice Ao51 x348001_2.length co51), .string x348002_2] 68 (0, 0))) ∧ Ax (wc.heap[gb356]? = some (.cells #[.int .u64 t350, (.slice Ao48 t351.length co48), .string t354] 66 (0, 0))) ∧ Ax (wc.heap[gb367]? = some (.cells #[.int .u64 t361, (.slice Ao60 t362.length co60), .string t365] 68 (0, 0))) ∧ Ax (Below w.heap.size w wc))
        case first =>
         have H := HC41.out
         clear HC41
         by_cases c63 : t355 = t366
         ·rw [if_pos c63] at H
          have c63b0 : (t355 == t366) = true := beq_iff_eq.mpr c63
          have c63b1 : (t355 != t366) = false := bne_eq_false_iff_eq.mpr c63
          clear c63
          (first | rw [c63b0] | (simp only [i64_w, i32_w]; rw [c63b0]) | skip)
          replace H := Option.bind_eq_some_iff.mp H
          obtain ⟨t368, A640, H⟩ := H
          replace H : (l13_built.j2 k2 l2 x13_2 t355 (!t368) x338000_2 x338001_2 x338002_2 x348000_2 x348001_2 x348002_2 t350 t351 t354 t361 t362 t365) = some (r1, r2, r3, r4, r5, r6, r7) := H
          have A64 := Ax.mk A640
          clear A640
          have H' := Ax.mk H
          clear H
          have hnb65 := NB356_329.out
          have hnc65 := NB329_356.out
          have hnb66 := NB356_330.out
          have hnc66 := NB330_356.out
          have hnb67 := NB356_337.out
          have hnc67 := NB337_356.out
          have hnb68 := NB356_347.out
          have hnc68 := NB347_356.out
          have hnb69 := NB356_367.out
          have hnc69 := NB367_356.out
          have hcz70_0 : w58.cell? ⟨gb356, 0, none⟩ = some (.int .u64 t350) := (bC BK356.out 0).trans rfl
          have hcz70_1 : w58.cell? ⟨gb356, 1, none⟩ = some (.slice Ao48 t351.length co48) := (bC BK356.out 1).trans rfl
          have hcz70_2 : w58.cell? ⟨gb356, 2, none⟩ = some (.string t354) := (bC BK356.out 2).trans rfl
          have hfz70_0 := bF BK356.out 0
          have hfz70_1 := bF BK356.out 1
          have hfz70_2 := bF BK356.out 2
          have hnb71 := NB367_329.out
          have hnc71 := NB329_367.out
          have hnb72 := NB367_330.out
          have hnc72 := NB330_367.out
          have hnb73 := NB367_337.out
          have hnc73 := NB337_367.out
          have hnb74 := NB367_347.out
          have hnc74 := NB347_367.out
          have hcz75_0 : w58.cell? ⟨gb367, 0, none⟩ = some (.int .u64 0) := (bC BK367.out 0).trans rfl
          have hcz75_1 : w58.cell? ⟨gb367, 1, none⟩ = some (.slice none 0 0) := (bC BK367.out 1).trans rfl
          have hcz75_2 : w58.cell? ⟨gb367, 2, none⟩ = some (.string (⟨#[]⟩ : ByteArray)) := (bC BK367.out 2).trans rfl
          have hfz75_0 := bF BK367.out 0
          have hfz75_1 := bF BK367.out 1
          have hfz75_2 := bF BK367.out 2
          go_wp2_with (first | (go_at_call 41; (with_reducible refine (l13_same.calls k2 t350 _ _ t351 t354 t361 _ _ t362 t365 t368 _ ?side1 ?side2 ?side3 ?side4 A64.out).mono ?_); (case side1 => refine (Kd.N_reads' (e := 44) (base := w.heap.size) (ok := fun k_ => ((w.heap.size ≤ k_) ∧ (some k_ ≠ (v359 : Value).ownBlock ∧ (some k_ ≠ (.slice Ao60 t362.length co60 : Value).ownBlock ∧ (some k_ ≠ (.slice Ao51 x348001_2.length co51 : Value).ownBlock ∧ (k_ ≠ gb329 ∧ (k_ ≠ gb330 ∧ (k_ ≠ gb337 ∧ (k_ ≠ gb347 ∧ (k_ ≠ gb356 ∧ k_ ≠ gb367)))))))))) (n := t351.length) (c := co48) ?_).2.2; exact (by apply Kd.N_to; exact (Kd.N_mono (Kd.N_far (p := ⟨gb367, 2, none⟩) (Kd.N_far (p := ⟨gb367, 1, none⟩) (Kd.N_far (p := ⟨gb367, 0, none⟩) (Kd.N_mono HO353.out (fun k_ hk => (⟨hk, hk.2.2.2.2.2.2.2.2.2⟩ : _ ∧ k_ ≠ gb367))) (fun _ hk => hk.2) (.int .u64 t361)) (fun _ hk => hk.2) (.slice Ao60 t362.length co60)) (fun _ hk => hk.2) (.string t365)) (fun _ h_ => h_.1)))); (case side2 => exact (Kd.N_reads' HO353.out).2.1); (case side3 => refine (Kd.N_reads' (e := 46) (base := w.heap.size) (ok := fun k_ => ((w.heap.size ≤ k_) ∧ (some k_ ≠ (.slice Ao48 t351.length co48 : Value).ownBlock ∧ (some k_ ≠ (.slice Ao42 x338001_2.length co42 : Value).ownBlock ∧ (k_ ≠ gb329 ∧ (k_ ≠ gb330 ∧ (k_ ≠ gb337 ∧ (k_ ≠ gb347 ∧ (k_ ≠ gb356 ∧ k_ ≠ gb367))))))))) (n := t362.length) (c := co60) ?_).2.2; exact (by apply Kd.N_to; exact (Kd.N_mono (Kd.N_far (p := ⟨gb367, 2, none⟩) (Kd.N_far (p := ⟨gb367, 1, none⟩) (Kd.N_far (p := ⟨gb367, 0, none⟩) (Kd.N_mono HO364.out (fun k_ hk => (⟨hk, hk.2.2.2.2.2.2.2.2⟩ : _ ∧ k_ ≠ gb367))) (fun _ hk => hk.2) (.int .u64 t361)) (fun _ hk => hk.2) (.slice Ao60 t362.length co60)) (fun _ hk => hk.2) (.string t365)) (fun _ h_ => h_.1)))); (case side4 => exact (Kd.N_reads' HO364.out).2.1); rintro e w76 ⟨rfl, hb⟩; have n0_ := Ax.mk (Kd.N_below (by apply Kd.N_to; exact (Kd.N_mono (Kd.N_far (p := ⟨gb367, 2, none⟩) (Kd.N_far (p := ⟨gb367, 1, none⟩) (Kd.N_far (p := ⟨gb367, 0, none⟩) (Kd.N_mono HO_338001.out (fun k_ hk => (⟨hk, hk.2.2.2.2.2.2.2.2.2.2⟩ : _ ∧ k_ ≠ gb367))) (fun _ hk => hk.2) (.int .u64 t361)) (fun _ hk => hk.2) (.slice Ao60 t362.length co60)) (fun _ hk => hk.2) (.string t365)) (fun _ h_ => h_.1))) hb); have n1_ := Ax.mk (Kd.N_below (by apply Kd.N_to; exact (Kd.N_mono (Kd.N_far (p := ⟨gb367, 2, none⟩) (Kd.N_far (p := ⟨gb367, 1, none⟩) (Kd.N_far (p := ⟨gb367, 0, none⟩) (Kd.N_mono HO_348001.out (fun k_ hk => (⟨hk, hk.2.2.2.2.2.2.2.2.2.2⟩ : _ ∧ k_ ≠ gb367))) (fun _ hk => hk.2) (.int .u64 t361)) (fun _ hk => hk.2) (.slice Ao60 t362.length co60)) (fun _ hk => hk.2) (.string t365)) (fun _ h_ => h_.1))) hb); have n2_ := Ax.mk (Kd.N_below (by apply Kd.N_to; exact (Kd.N_mono (Kd.N_far (p := ⟨gb367, 2, none⟩) (Kd.N_far (p := ⟨gb367, 1, none⟩) (Kd.N_far (p := ⟨gb367, 0, none⟩) (Kd.N_mono HO353.out (fun k_ hk => (⟨hk, hk.2.2.2.2.2.2.2.2.2⟩ : _ ∧ k_ ≠ gb367))) (fun _ hk => hk.2) (.int .u64 t361)) (fun _ hk => hk.2) (.slice Ao60 t362.length co60)) (fun _ hk => hk.2) (.string t365)) (fun _ h_ => h_.1))) hb); have n3_ := Ax.mk (Kd.R_below (by apply Kd.R_to; exact (Kd.R_mono (Kd.R_far (p := ⟨gb367, 2, none⟩) (Kd.R_far (p := ⟨gb367, 1, none⟩) (Kd.R_far (p := ⟨gb367, 0, none⟩) (Kd.R_types HO360.out BK367.out (by decide)) (fun _ hk => hk.2) (.int .u64 t361)) (fun _ hk => hk.2) (.slice Ao60 t362.length co60)) (fun _ hk => hk.2) (.string t365)) (fun _ h_ => h_.1))) hb); have n4_ := Ax.mk (Kd.N_below (by apply Kd.N_to; exact (Kd.N_mono (Kd.N_far (p := ⟨gb367, 2, none⟩) (Kd.N_far (p := ⟨gb367, 1, none⟩) (Kd.N_far (p := ⟨gb367, 0, none⟩) (Kd.N_mono HO364.out (fun k_ hk => (⟨hk, hk.2.2.2.2.2.2.2.2⟩ : _ ∧ k_ ≠ gb367))) (fun _ hk => hk.2) (.int .u64 t361)) (fun _ hk => hk.2) (.slice Ao60 t362.length co60)) (fun _ hk => hk.2) (.string t365)) (fun _ h_ => h_.1))) hb); have n5_ := Ax.mk (bB (g := gb329) (o := .cells #[.int .u64 x330000_2, .slice none 0 0, .string x330002_2] 66 (0, 0)) (by refine bT ?_; refine bR ?_ NB329_367.out _; refine bT ?_; refine bR ?_ NB329_367.out _; refine bT ?_; refine bR ?_ NB329_367.out _; exact bT BK329.out) hb); have n6_ := Ax.mk (bB (g := gb330) (o := .cells #[.int .u64 x331000_2, .slice none 0 0, .string x331002_2] 68 (0, 0)) (by refine bT ?_; refine bR ?_ NB330_367.out _; refine bT ?_; refine bR ?_ NB330_367.out _; refine bT ?_; refine bR ?_ NB330_367.out _; exact bT BK330.out) hb); have n7_ := Ax.mk (bB (g := gb337) (o := .cells #[.int .u64 x338000_2, .slice Ao42 x338001_2.length co42, .string x338002_2] 66 (0, 0)) (by refine bT ?_; refine bR ?_ NB337_367.out _; refine bT ?_; refine bR ?_ NB337_367.out _; refine bT ?_; refine bR ?_ NB337_367.out _; exact bT BK337.out) hb); have n8_ := Ax.mk (bB (g := gb347) (o := .cells #[.int .u64 x348000_2, .slice Ao51 x348001_2.length co51, .string x348002_2] 68 (0, 0)) (by refine bT ?_; refine bR ?_ NB347_367.out _; refine bT ?_; refine bR ?_ NB347_367.out _; refine bT ?_; refine bR ?_ NB347_367.out _; exact bT BK347.out) hb); have n9_ := Ax.mk (bB (g := gb356) (o := .cells #[.int .u64 t350, .slice Ao48 t351.length co48, .string t354] 66 (0, 0)) (by refine bT ?_; refine bR ?_ NB356_367.out _; refine bT ?_; refine bR ?_ NB356_367.out _; refine bT ?_; refine bR ?_ NB356_367.out _; exact bT BK356.out) hb); have n10_ := Ax.mk (bB (g := gb367) (o := .cells #[.int .u64 t361, .slice Ao60 t362.length co60, .string t365] 68 (0, 0)) (by refine bT ?_; refine bU (cs := #[.int .u64 t361, .slice Ao60 t362.length co60, .string (⟨#[]⟩ : ByteArray)]) ?_ 2 _ rfl; refine bT ?_; refine bU (cs := #[.int .u64 t361, .slice none 0 0, .string (⟨#[]⟩ : ByteArray)]) ?_ 1 _ rfl; refine bT ?_; refine bU (cs := #[.int .u64 0, .slice none 0 0, .string (⟨#[]⟩ : ByteArray)]) ?_ 0 _ rfl; exact bT BK367.out) hb); have n11_ := Ax.mk (bP bA hb); clear HO_338001; clear HO_348001; clear HO353; clear HO360; clear HO364; clear BK329; clear BK330; clear BK337; clear BK347; clear BK356; clear BK367; clear HB; have HO_338001 := n0_; have HO_348001 := n1_; have HO353 := n2_; have HO360 := n3_; have HO364 := n4_; have BK329 := n5_; have BK330 := n6_; have BK337 := n7_; have BK347 := n8_; have BK356 := n9_; have BK367 := n10_; have HB := n11_; clear n0_ n1_ n2_ n3_ n4_ n5_ n6_ n7_ n8_ n9_ n10_ n11_; (try clear hb); (try clear hb2); (try clear hk); (try clear hi)))
          go_meet
          case rel => exact ⟨_, (!t368), (by first | rfl | (simp; done) | (simp [*]; done)), H', ⟨by have := HJ6.out; have := HK2.out; first | omega | exact Nat.le_refl _⟩, ⟨by apply Kd.N_to; exact Kd.N_mono HO_338001.out (fun _ hk => ⟨hk.1, ⟨hk.2.2.2.2.1, ⟨hk.2.1, ⟨hk.2.2.2.1, ⟨hk.2.2.2.2.2.1, ⟨hk.2.2.2.2.2.2.1, ⟨hk.2.2.2.2.2.2.2.1, ⟨hk.2.2.2.2.2.2.2.2.1, ⟨hk.2.2.2.2.2.2.2.2.2.1, hk.2.2.2.2.2.2.2.2.2.2⟩⟩⟩⟩⟩⟩⟩⟩⟩)⟩, ⟨by apply Kd.N_to; exact Kd.N_mono HO_348001.out (fun _ hk => ⟨hk.1, ⟨hk.2.2.2.2.1, ⟨hk.2.1, ⟨hk.2.2.2.1, ⟨hk.2.2.2.2.2.1, ⟨hk.2.2.2.2.2.2.1, ⟨hk.2.2.2.2.2.2.2.1, ⟨hk.2.2.2.2.2.2.2.2.1, ⟨hk.2.2.2.2.2.2.2.2.2.1, hk.2.2.2.2.2.2.2.2.2.2⟩⟩⟩⟩⟩⟩⟩⟩⟩)⟩, ⟨by apply Kd.N_to; exact Kd.N_mono HO353.out (fun _ hk => ⟨hk.1, ⟨hk.2.2.2.1, ⟨hk.2.2.1, ⟨hk.2.2.2.2.1, ⟨hk.2.2.2.2.2.1, ⟨hk.2.2.2.2.2.2.1, ⟨hk.2.2.2.2.2.2.2.1, ⟨hk.2.2.2.2.2.2.2.2.1, hk.2.2.2.2.2.2.2.2.2⟩⟩⟩⟩⟩⟩⟩⟩)⟩, ⟨by apply Kd.N_to; exact Kd.N_mono HO364.out (fun _ hk => ⟨hk.1, ⟨hk.2.2.1, ⟨hk.2.1, ⟨hk.2.2.2.1, ⟨hk.2.2.2.2.1, ⟨hk.2.2.2.2.2.1, ⟨hk.2.2.2.2.2.2.1, ⟨hk.2.2.2.2.2.2.2.1, hk.2.2.2.2.2.2.2.2⟩⟩⟩⟩⟩⟩⟩⟩)⟩, ⟨by refine bT ?_; exact BK329.out⟩, ⟨by refine bT ?_; exact BK330.out⟩, ⟨by refine bT ?_; exact BK337.out⟩, ⟨by refine bT ?_; exact BK347.out⟩, ⟨by refine bT ?_; exact BK356.out⟩, ⟨by refine bT ?_; exact BK367.out⟩, ⟨bA⟩⟩
         ·rw [if_neg c63] at H
          have c63b0 : (t355 == t366) = false := beq_eq_false_iff_ne.mpr c63
          have c63b1 : (t355 != t366) = true := bne_iff_ne.mpr c63
          (first | rw [c63b0] | (simp only [i64_w, i32_w]; rw [c63b0]) | skip)
          have H' := Ax.mk H
          clear H
          go_wp2
          go_meet
          case rel => exact ⟨_, (true), (by first | rfl | (simp; done) | (simp [*]; done)), H', ⟨by have := HJ6.out; have := HK2.out; first | omega | exact Nat.le_refl _⟩, ⟨by apply Kd.N_to; exact Kd.N_mono (Kd.N_far (p := ⟨gb367, 2, none⟩) (Kd.N_far (p := ⟨gb367, 1, none⟩) (Kd.N_far (p := ⟨gb367, 0, none⟩) (Kd.N_mono HO_338001.out (fun k_ hk => (⟨hk, hk.2.2.2.2.2.2.2.2.2.2⟩ : _ ∧ k_ ≠ gb367))) (fun _ hk => hk.2) (.int .u64 t361)) (fun _ hk => hk.2) (.slice Ao60 t362.length co60)) (fun _ hk => hk.2) (.string t365)) (fun _ hk => ⟨hk.1.1, ⟨hk.1.2.2.2.2.1, ⟨hk.1.2.1, ⟨hk.1.2.2.2.1, ⟨hk.1.2.2.2.2.2.1, ⟨hk.1.2.2.2.2.2.2.1, ⟨hk.1.2.2.2.2.2.2.2.1, ⟨hk.1.2.2.2.2.2.2.2.2.1, ⟨hk.1.2.2.2.2.2.2.2.2.2.1, hk.1.2.2.2.2.2.2.2.2.2.2⟩⟩⟩⟩⟩⟩⟩⟩⟩)⟩, ⟨by apply Kd.N_to; exact Kd.N_mono (Kd.N_far (p := ⟨gb367, 2, none⟩) (Kd.N_far (p := ⟨gb367, 1, none⟩) (Kd.N_far (p := ⟨gb367, 0, none⟩) (Kd.N_mono HO_348001.out (fun k_ hk => (⟨hk, hk.2.2.2.2.2.2.2.2.2.2⟩ : _ ∧ k_ ≠ gb367))) (fun _ hk => hk.2) (.int .u64 t361)) (fun _ hk => hk.2) (.slice Ao60 t362.length co60)) (fun _ hk => hk.2) (.string t365)) (fun _ hk => ⟨hk.1.1, ⟨hk.1.2.2.2.2.1, ⟨hk.1.2.1, ⟨hk.1.2.2.2.1, ⟨hk.1.2.2.2.2.2.1, ⟨hk.1.2.2.2.2.2.2.1, ⟨hk.1.2.2.2.2.2.2.2.1, ⟨hk.1.2.2.2.2.2.2.2.2.1, ⟨hk.1.2.2.2.2.2.2.2.2.2.1, hk.1.2.2.2.2.2.2.2.2.2.2⟩⟩⟩⟩⟩⟩⟩⟩⟩)⟩, ⟨by apply Kd.N_to; exact Kd.N_mono (Kd.N_far (p := ⟨gb367, 2, none⟩) (Kd.N_far (p := ⟨gb367, 1, none⟩) (Kd.N_far (p := ⟨gb367, 0, none⟩) (Kd.N_mono HO353.out (fun k_ hk => (⟨hk, hk.2.2.2.2.2.2.2.2.2⟩ : _ ∧ k_ ≠ gb367))) (fun _ hk => hk.2) (.int .u64 t361)) (fun _ hk => hk.2) (.slice Ao60 t362.length co60)) (fun _ hk => hk.2) (.string t365)) (fun _ hk => ⟨hk.1.1, ⟨hk.1.2.2.2.1, ⟨hk.1.2.2.1, ⟨hk.1.2.2.2.2.1, ⟨hk.1.2.2.2.2.2.1, ⟨hk.1.2.2.2.2.2.2.1, ⟨hk.1.2.2.2.2.2.2.2.1, ⟨hk.1.2.2.2.2.2.2.2.2.1, hk.1.2.2.2.2.2.2.2.2.2⟩⟩⟩⟩⟩⟩⟩⟩)⟩, ⟨by apply Kd.N_to; exact Kd.N_mono (Kd.N_far (p := ⟨gb367, 2, none⟩) (Kd.N_far (p := ⟨gb367, 1, none⟩) (Kd.N_far (p := ⟨gb367, 0, none⟩) (Kd.N_mono HO364.out (fun k_ hk => (⟨hk, hk.2.2.2.2.2.2.2.2⟩ : _ ∧ k_ ≠ gb367))) (fun _ hk => hk.2) (.int .u64 t361)) (fun _ hk => hk.2) (.slice Ao60 t362.length co60)) (fun _ hk => hk.2) (.string t365)) (fun _ hk => ⟨hk.1.1, ⟨hk.1.2.2.1, ⟨hk.1.2.1, ⟨hk.1.2.2.2.1, ⟨hk.1.2.2.2.2.1, ⟨hk.1.2.2.2.2.2.1, ⟨hk.1.2.2.2.2.2.2.1, ⟨hk.1.2.2.2.2.2.2.2.1, hk.1.2.2.2.2.2.2.2.2⟩⟩⟩⟩⟩⟩⟩⟩)⟩, ⟨by refine bT ?_; refine bR ?_ NB329_367.out _; refine bT ?_; refine bR ?_ NB329_367.out _; refine bT ?_; refine bR ?_ NB329_367.out _; refine bT ?_; exact BK329.out⟩, ⟨by refine bT ?_; refine bR ?_ NB330_367.out _; refine bT ?_; refine bR ?_ NB330_367.out _; refine bT ?_; refine bR ?_ NB330_367.out _; refine bT ?_; exact BK330.out⟩, ⟨by refine bT ?_; refine bR ?_ NB337_367.out _; refine bT ?_; refine bR ?_ NB337_367.out _; refine bT ?_; refine bR ?_ NB337_367.out _; refine bT ?_; exact BK337.out⟩, ⟨by refine bT ?_; refine bR ?_ NB347_367.out _; refine bT ?_; refine bR ?_ NB347_367.out _; refine bT ?_; refine bR ?_ NB347_367.out _; refine bT ?_; exact BK347.out⟩, ⟨by refine bT ?_; refine bR ?_ NB356_367.out _; refine bT ?_; refine bR ?_ NB356_367.out _; refine bT ?_; refine bR ?_ NB356_367.out _; refine bT ?_; exact BK356.out⟩, ⟨by refine bT ?_; refine bU (cs := #[.int .u64 t361, .slice Ao60 t362.length co60, .string (⟨#[]⟩ : ByteArray)]) ?_ 2 _ rfl; refine bT ?_; refine bU (cs := #[.int .u64 t361, .slice none 0 0, .string (⟨#[]⟩ : ByteArray)]) ?_ 1 _ rfl; refine bT ?_; refine bU (cs := #[.int .u64 0, .slice none 0 0, .string (⟨#[]⟩ : ByteArray)]) ?_ 0 _ rfl; refine bT ?_; exact BK367.out⟩, ⟨bA⟩⟩
        case rest =>
         clear HC41
         try clear p2
         try clear c3
         try clear c4
         try clear c6
         try clear c7
         try clear c35
         try clear c40
         try clear c61
         try clear c63
         try clear c63b0
         try clear c63b1
         try clear c65
         try clear c66
         try clear c67
         try clear c68
         try clear c69
         try clear c71
         try clear c72
         try clear c73
         try clear c74
         try clear hcz70_0
         try clear hcz70_1
         try clear hcz70_2
         try clear hcz75_0
         try clear hcz75_1
         try clear hcz75_2
         try clear hfz70_0
         try clear hfz70_1
         try clear hfz70_2
         try clear hfz75_0
         try clear hfz75_1
         try clear hfz75_2
         obtain ⟨kq, x75_40, rfl, HA, HJ40, HO_338001, HO_348001, HO_357001, HO_368001, BK329, BK330, BK337, BK347, BK356, BK367, HB⟩ := hcut
         cases kq with
         | zero => exact absurd HA.out (by simp [l13_built.j2])
         | succ kj40 =>
          have H := HA.out
          clear HA
          simp only [l13_built.j2] at H
          by_cases c77 : x75_40 = true
          ·subst c77
           have H1 : (none) = some (r1, r2, r3, r4, r5, r6, r7) := by rw [if_pos rfl] at H; exact H
           clear H
           have H := H1
           clear H1
           exact absurd H (by simp)
          ·replace c77 := Bool.eq_false_iff.mpr c77
           subst c77
           have H1 : (if t355 = 0 then (l13_built.l0 kj40 l2 (wrap64 (x13_2 + 1)) t350 t351 t354 t361 t362 t365) else (l13_built.l0 kj40 l2 (wrap64 (x13_2 + 1)) x338000_2 x338001_2 x338002_2 x348000_2 x348001_2 x348002_2)) = some (r1, r2, r3, r4, r5, r6, r7) := by rw [if_neg (show ¬ (false = true) by decide)] at H; exact H
           clear H
           have H := H1
           clear H1
           by_cases c78 : t355 = 0
           ·rw [if_pos c78] at H
            have c78b0 : (t355 == 0) = true := beq_iff_eq.mpr c78
            have c78b1 : (t355 != 0) = false := bne_eq_false_iff_eq.mpr c78
            clear c78
            have H' := Ax.mk H
            clear H
            have hnb79 := NB356_329.out
            have hnc79 := NB329_356.out
            have hnb80 := NB356_330.out
            have hnc80 := NB330_356.out
            have hnb81 := NB356_337.out
            have hnc81 := NB337_356.out
            have hnb82 := NB356_347.out
            have hnc82 := NB347_356.out
            have hnb83 := NB356_367.out
            have hnc83 := NB367_356.out
            have hcz84_0 : wc.cell? ⟨gb356, 0, none⟩ = some (.int .u64 t350) := (bC BK356.out 0).trans rfl
            have hcz84_1 : wc.cell? ⟨gb356, 1, none⟩ = some (.slice Ao48 t351.length co48) := (bC BK356.out 1).trans rfl
            have hcz84_2 : wc.cell? ⟨gb356, 2, none⟩ = some (.string t354) := (bC BK356.out 2).trans rfl
            have hfz84_0 := bF BK356.out 0
            have hfz84_1 := bF BK356.out 1
            have hfz84_2 := bF BK356.out 2
            have hnb85 := NB337_329.out
            have hnc85 := NB329_337.out
            have hnb86 := NB337_330.out
            have hnc86 := NB330_337.out
            have hnb87 := NB337_347.out
            have hnc87 := NB347_337.out
            have hnb88 := NB337_367.out
            have hnc88 := NB367_337.out
            have hcz89_0 : wc.cell? ⟨gb337, 0, none⟩ = some (.int .u64 x338000_2) := (bC BK337.out 0).trans rfl
            have hcz89_1 : wc.cell? ⟨gb337, 1, none⟩ = some (.slice Ao42 x338001_2.length co42) := (bC BK337.out 1).trans rfl
            have hcz89_2 : wc.cell? ⟨gb337, 2, none⟩ = some (.string x338002_2) := (bC BK337.out 2).trans rfl
            have hfz89_0 := bF BK337.out 0
            have hfz89_1 := bF BK337.out 1
            have hfz89_2 := bF BK337.out 2
            have hnb90 := NB367_329.out
            have hnc90 := NB329_367.out
            have hnb91 := NB367_330.out
            have hnc91 := NB330_367.out
            have hnb92 := NB367_347.out
            have hnc92 := NB347_367.out
            have hcz93_0 : wc.cell? ⟨gb367, 0, none⟩ = some (.int .u64 t361) := (bC BK367.out 0).trans rfl
            have hcz93_1 : wc.cell? ⟨gb367, 1, none⟩ = some (.slice Ao60 t362.length co60) := (bC BK367.out 1).trans rfl
            have hcz93_2 : wc.cell? ⟨gb367, 2, none⟩ = some (.string t365) := (bC BK367.out 2).trans rfl
            have hfz93_0 := bF BK367.out 0
            have hfz93_1 := bF BK367.out 1
            have hfz93_2 := bF BK367.out 2
            have hnb94 := NB347_329.out
            have hnc94 := NB329_347.out
            have hnb95 := NB347_330.out
            have hnc95 := NB330_347.out
            have hcz96_0 : wc.cell? ⟨gb347, 0, none⟩ = some (.int .u64 x348000_2) := (bC BK347.out 0).trans rfl
            have hcz96_1 : wc.cell? ⟨gb347, 1, none⟩ = some (.slice Ao51 x348001_2.length co51) := (bC BK347.out 1).trans rfl
            have hcz96_2 : wc.cell? ⟨gb347, 2, none⟩ = some (.string x348002_2) := (bC BK347.out 2).trans rfl
            have hfz96_0 := bF BK347.out 0
            have hfz96_1 := bF BK347.out 1
            have hfz96_2 := bF BK347.out 2
            go_wp2
            go_roundg kj40
            case measure => have := HJ6.out; have := HK2.out; have := HJ40.out; omega
            case rel => exact ⟨(wrap64 (x13_2 + 1)), (x330000_2), (x330002_2), (x331000_2), (x331002_2), (t350), (t351), (t354), (t361), (t362), (t365), (.slice Ao48 t351.length co48), (.slice Ao60 t362.length co60), (by first | rfl | (simp; done) | (simp [*]; done)), H', ⟨by have := HJ6.out; have := HK2.out; have := HJ40.out; omega⟩, ⟨by apply Kd.N_to; exact Kd.N_mono (Kd.N_far (p := ⟨gb347, 2, none⟩) (Kd.N_far (p := ⟨gb347, 1, none⟩) (Kd.N_far (p := ⟨gb347, 0, none⟩) (Kd.N_far (p := ⟨gb337, 2, none⟩) (Kd.N_far (p := ⟨gb337, 1, none⟩) (Kd.N_far (p := ⟨gb337, 0, none⟩) (Kd.N_mono (Kd.N_mono HO_357001.out (fun k_ hk => (⟨hk, hk.2.2.2.2.2.1⟩ : _ ∧ k_ ≠ gb337))) (fun k_ hk => (⟨hk, hk.1.2.2.2.2.2.2.1⟩ : _ ∧ k_ ≠ gb347))) (fun _ hk => hk.1.2) (.int .u64 t350)) (fun _ hk => hk.1.2) (.slice Ao48 t351.length co48)) (fun _ hk => hk.1.2) (.string t354)) (fun _ hk => hk.2) (.int .u64 t361)) (fun _ hk => hk.2) (.slice Ao60 t362.length co60)) (fun _ hk => hk.2) (.string t365)) (fun _ hk => ⟨hk.1.1.1, ⟨hk.1.1.2.2.1, ⟨hk.1.1.2.2.2.1, ⟨hk.1.1.2.2.2.2.1, ⟨hk.1.1.2.2.2.2.2.1, hk.1.1.2.2.2.2.2.2.1⟩⟩⟩⟩⟩)⟩, ⟨by apply Kd.N_to; exact Kd.N_mono (Kd.N_far (p := ⟨gb347, 2, none⟩) (Kd.N_far (p := ⟨gb347, 1, none⟩) (Kd.N_far (p := ⟨gb347, 0, none⟩) (Kd.N_far (p := ⟨gb337, 2, none⟩) (Kd.N_far (p := ⟨gb337, 1, none⟩) (Kd.N_far (p := ⟨gb337, 0, none⟩) (Kd.N_mono (Kd.N_mono HO_368001.out (fun k_ hk => (⟨hk, hk.2.2.2.2.2.1⟩ : _ ∧ k_ ≠ gb337))) (fun k_ hk => (⟨hk, hk.1.2.2.2.2.2.2.1⟩ : _ ∧ k_ ≠ gb347))) (fun _ hk => hk.1.2) (.int .u64 t350)) (fun _ hk => hk.1.2) (.slice Ao48 t351.length co48)) (fun _ hk => hk.1.2) (.string t354)) (fun _ hk => hk.2) (.int .u64 t361)) (fun _ hk => hk.2) (.slice Ao60 t362.length co60)) (fun _ hk => hk.2) (.string t365)) (fun _ hk => ⟨hk.1.1.1, ⟨hk.1.1.2.2.1, ⟨hk.1.1.2.2.2.1, ⟨hk.1.1.2.2.2.2.1, ⟨hk.1.1.2.2.2.2.2.1, hk.1.1.2.2.2.2.2.2.1⟩⟩⟩⟩⟩)⟩, ⟨by refine bT ?_; refine bR ?_ NB329_347.out _; refine bT ?_; refine bR ?_ NB329_347.out _; refine bT ?_; refine bR ?_ NB329_347.out _; refine bT ?_; refine bR ?_ NB329_337.out _; refine bT ?_; refine bR ?_ NB329_337.out _; refine bT ?_; refine bR ?_ NB329_337.out _; refine bT ?_; exact BK329.out⟩, ⟨by refine bT ?_; refine bR ?_ NB330_347.out _; refine bT ?_; refine bR ?_ NB330_347.out _; refine bT ?_; refine bR ?_ NB330_347.out _; refine bT ?_; refine bR ?_ NB330_337.out _; refine bT ?_; refine bR ?_ NB330_337.out _; refine bT ?_; refine bR ?_ NB330_337.out _; refine bT ?_; exact BK330.out⟩, ⟨by refine bT ?_; refine bR ?_ NB337_347.out _; refine bT ?_; refine bR ?_ NB337_347.out _; refine bT ?_; refine bR ?_ NB337_347.out _; refine bT ?_; refine bU (cs := #[.int .u64 t350, .slice Ao48 t351.length co48, .string x338002_2]) ?_ 2 _ rfl; refine bT ?_; refine bU (cs := #[.int .u64 t350, .slice Ao42 x338001_2.length co42, .string x338002_2]) ?_ 1 _ rfl; refine bT ?_; refine bU (cs := #[.int .u64 x338000_2, .slice Ao42 x338001_2.length co42, .string x338002_2]) ?_ 0 _ rfl; refine bT ?_; exact BK337.out⟩, ⟨by refine bT ?_; refine bU (cs := #[.int .u64 t361, .slice Ao60 t362.length co60, .string x348002_2]) ?_ 2 _ rfl; refine bT ?_; refine bU (cs := #[.int .u64 t361, .slice Ao51 x348001_2.length co51, .string x348002_2]) ?_ 1 _ rfl; refine bT ?_; refine bU (cs := #[.int .u64 x348000_2, .slice Ao51 x348001_2.length co51, .string x348002_2]) ?_ 0 _ rfl; refine bT ?_; refine bR ?_ NB347_337.out _; refine bT ?_; refine bR ?_ NB347_337.out _; refine bT ?_; refine bR ?_ NB347_337.out _; refine bT ?_; exact BK347.out⟩, ⟨bA⟩⟩
           ·rw [if_neg c78] at H
            have c78b0 : (t355 == 0) = false := beq_eq_false_iff_ne.mpr c78
            have c78b1 : (t355 != 0) = true := bne_iff_ne.mpr c78
            have H' := Ax.mk H
            clear H
            go_wp2
            go_roundg kj40
            case measure => have := HJ6.out; have := HK2.out; have := HJ40.out; omega
            case rel => exact ⟨(wrap64 (x13_2 + 1)), (x330000_2), (x330002_2), (x331000_2), (x331002_2), (x338000_2), (x338001_2), (x338002_2), (x348000_2), (x348001_2), (x348002_2), (.slice Ao42 x338001_2.length co42), (.slice Ao51 x348001_2.length co51), (by first | rfl | (simp; done) | (simp [*]; done)), H', ⟨by have := HJ6.out; have := HK2.out; have := HJ40.out; omega⟩, ⟨by apply Kd.N_to; exact Kd.N_mono HO_338001.out (fun _ hk => ⟨hk.1, ⟨hk.2.1, ⟨hk.2.2.2.2.1, ⟨hk.2.2.2.2.2.1, ⟨hk.2.2.2.2.2.2.1, hk.2.2.2.2.2.2.2.1⟩⟩⟩⟩⟩)⟩, ⟨by apply Kd.N_to; exact Kd.N_mono HO_348001.out (fun _ hk => ⟨hk.1, ⟨hk.2.1, ⟨hk.2.2.2.2.1, ⟨hk.2.2.2.2.2.1, ⟨hk.2.2.2.2.2.2.1, hk.2.2.2.2.2.2.2.1⟩⟩⟩⟩⟩)⟩, ⟨by refine bT ?_; exact BK329.out⟩, ⟨by refine bT ?_; exact BK330.out⟩, ⟨by refine bT ?_; exact BK337.out⟩, ⟨by refine bT ?_; exact BK347.out⟩, ⟨bA⟩⟩
       ·rw [if_neg c37] at H
        exact absurd H (by simp)
      ·rw [if_neg c36] at H
       have c36b0 : decide (x13_2 < (l2.length : Int)) = false := decide_eq_false c36
       clear c36
       simp only [Option.some.injEq, Prod.mk.injEq] at H
       obtain ⟨rfl, rfl, rfl, rfl, rfl, rfl, rfl⟩ := H
       try go_wp2
       have n0_ := Ax.mk (Kd.N_drew HO_338001.out)
       have n1_ := Ax.mk (Kd.N_drew HO_348001.out)
       have n2_ := Ax.mk (blk_drew BK329.out)
       have n3_ := Ax.mk (blk_drew BK330.out)
       have n4_ := Ax.mk (blk_drew BK337.out)
       have n5_ := Ax.mk (blk_drew BK347.out)
       have n6_ := Ax.mk (below_drew1 HB.out)
       clear HO_338001
       clear HO_348001
       clear BK329
       clear BK330
       clear BK337
       clear BK347
       clear HB
       have HO_338001 := n0_
       have HO_348001 := n1_
       have BK329 := n2_
       have BK330 := n3_
       have BK337 := n4_
       have BK347 := n5_
       have HB := n6_
       clear n0_ n1_ n2_ n3_ n4_ n5_ n6_
       obtain ⟨Ao99, co99, eo99⟩ := Kd.N_slice HO_338001.out
       (first | subst eo99 | (injection eo99 with f1_ f2_ f3_; have f4_ := f1_.symm; have f5_ := f3_.symm; clear f1_ f2_ f3_; subst f4_; subst f5_))
       obtain ⟨Ao103, co103, eo103⟩ := Kd.N_slice HO_348001.out
       (first | subst eo103 | (injection eo103 with f1_ f2_ f3_; have f4_ := f1_.symm; have f5_ := f3_.symm; clear f1_ f2_ f3_; subst f4_; subst f5_))
       refine start_ (n := 5) (S := fun w' => w'.cell? ⟨gb337, 0, none⟩ = some (.int .u64 x338000_2) ∧ w'.cell? ⟨gb337, 1, none⟩ = some (.slice Ao99 x338001_2.length co99) ∧ w'.cell? ⟨gb337, 2, none⟩ = some (.string x338002_2) ∧ w'.cell? ⟨gb347, 0, none⟩ = some (.int .u64 x348000_2) ∧ w'.cell? ⟨gb347, 1, none⟩ = some (.slice Ao103 x348001_2.length co103) ∧ w'.cell? ⟨gb347, 2, none⟩ = some (.string x348002_2)) (ds := []) #[false, false, false, false, false] (by kernel_rfl) rfl rfl ⟨(bC BK337.out 0).trans rfl, (bC BK337.out 1).trans rfl, (bC BK337.out 2).trans rfl, (bC BK347.out 0).trans rfl, (bC BK347.out 1).trans rfl, (bC BK347.out 2).trans rfl⟩ (fun hHeld => ?_)
       generalize wr.drew = w97 at HO_338001 HO_348001 BK329 BK330 BK337 BK347 HB hHeld ⊢
       refine take_ (i := 0) (N := some 82) (v := ?_) (a' := ?_) #[true, false, false, false, false] rfl rfl (by kernel_rfl) (fun _ _ _ h => h) (Or.inl ⟨by rfl, ?_⟩) hHeld ?_ ?_
       rotate_left
       ·rintro w' ⟨s0, s1, s2, s3, s4, s5⟩
        go_simp
        with_reducible rfl
       rotate_left
       ·simp only [Act.put, setIfInBounds_toArray, set_cons_zero, set_cons_succ, i64_w, i32_w]
        rfl
       refine take_ (i := 1) (N := some 83) (v := ?_) (a' := ?_) #[true, true, false, false, false] rfl rfl (by kernel_rfl) (fun _ _ _ h => h) (Or.inl ⟨by rfl, ?_⟩) hHeld ?_ ?_
       rotate_left
       ·rintro w' ⟨s0, s1, s2, s3, s4, s5⟩
        go_simp
        with_reducible rfl
       rotate_left
       ·simp only [Act.put, setIfInBounds_toArray, set_cons_zero, set_cons_succ, i64_w, i32_w]
        rfl
       refine one_ (i := 2) (N := none) #[true, true, true, false, false] rfl rfl (by kernel_rfl) (by decide) (fun K hK => ?_)
       have hs98 : w97.cell? ⟨gb329, 0, none⟩ = some (.int .u64 x330000_2) := (bC BK329.out 0).trans rfl
       have hfs98 := bF BK329.out 0
       have hns98_1 := NB330_329.out
       have hns98_2 := NB337_329.out
       have hns98_3 := NB347_329.out
       have hms98_1 := NB329_330.out
       have hms98_2 := NB329_337.out
       have hms98_3 := NB329_347.out
       have hs100 : w97.cell? ⟨gb329, 1, none⟩ = some (.slice none 0 0) := (bC BK329.out 1).trans rfl
       have hfs100 := bF BK329.out 1
       have hns100_1 := NB330_329.out
       have hns100_2 := NB337_329.out
       have hns100_3 := NB347_329.out
       have hms100_1 := NB329_330.out
       have hms100_2 := NB329_337.out
       have hms100_3 := NB329_347.out
       have hs101 : w97.cell? ⟨gb329, 2, none⟩ = some (.string x330002_2) := (bC BK329.out 2).trans rfl
       have hfs101 := bF BK329.out 2
       have hns101_1 := NB330_329.out
       have hns101_2 := NB337_329.out
       have hns101_3 := NB347_329.out
       have hms101_1 := NB329_330.out
       have hms101_2 := NB329_337.out
       have hms101_3 := NB329_347.out
       refine skip_ (w1 := ?_) (by rfl) rfl ?_ ?_
       rotate_left
       ·go_simp
        rfl
       refine hK.out _ _ ⟨((cell_far (p := ⟨gb329, _, none⟩) NB337_329.out _).trans (((cell_far (p := ⟨gb329, _, none⟩) NB337_329.out _).trans (((cell_far (p := ⟨gb329, _, none⟩) NB337_329.out _).trans (hHeld.1)))))), ((cell_far (p := ⟨gb329, _, none⟩) NB337_329.out _).trans (((cell_far (p := ⟨gb329, _, none⟩) NB337_329.out _).trans (((cell_far (p := ⟨gb329, _, none⟩) NB337_329.out _).trans (hHeld.2.1)))))), ((cell_far (p := ⟨gb329, _, none⟩) NB337_329.out _).trans (((cell_far (p := ⟨gb329, _, none⟩) NB337_329.out _).trans (((cell_far (p := ⟨gb329, _, none⟩) NB337_329.out _).trans (hHeld.2.2.1)))))), ((cell_far (p := ⟨gb329, _, none⟩) NB347_329.out _).trans (((cell_far (p := ⟨gb329, _, none⟩) NB347_329.out _).trans (((cell_far (p := ⟨gb329, _, none⟩) NB347_329.out _).trans (hHeld.2.2.2.1)))))), ((cell_far (p := ⟨gb329, _, none⟩) NB347_329.out _).trans (((cell_far (p := ⟨gb329, _, none⟩) NB347_329.out _).trans (((cell_far (p := ⟨gb329, _, none⟩) NB347_329.out _).trans (hHeld.2.2.2.2.1)))))), ((cell_far (p := ⟨gb329, _, none⟩) NB347_329.out _).trans (((cell_far (p := ⟨gb329, _, none⟩) NB347_329.out _).trans (((cell_far (p := ⟨gb329, _, none⟩) NB347_329.out _).trans (hHeld.2.2.2.2.2))))))⟩ (fun hHeld => ?_)
       clear hK K
       refine one_ (i := 3) (N := none) #[true, true, true, true, false] rfl rfl (by kernel_rfl) (by decide) (fun K hK => ?_)
       have hs102 : w97.cell? ⟨gb330, 0, none⟩ = some (.int .u64 x331000_2) := (bC BK330.out 0).trans rfl
       have hfs102 := bF BK330.out 0
       have hns102_0 := NB329_330.out
       have hns102_2 := NB337_330.out
       have hns102_3 := NB347_330.out
       have hms102_0 := NB330_329.out
       have hms102_2 := NB330_337.out
       have hms102_3 := NB330_347.out
       have hs104 : w97.cell? ⟨gb330, 1, none⟩ = some (.slice none 0 0) := (bC BK330.out 1).trans rfl
       have hfs104 := bF BK330.out 1
       have hns104_0 := NB329_330.out
       have hns104_2 := NB337_330.out
       have hns104_3 := NB347_330.out
       have hms104_0 := NB330_329.out
       have hms104_2 := NB330_337.out
       have hms104_3 := NB330_347.out
       have hs105 : w97.cell? ⟨gb330, 2, none⟩ = some (.string x331002_2) := (bC BK330.out 2).trans rfl
       have hfs105 := bF BK330.out 2
       have hns105_0 := NB329_330.out
       have hns105_2 := NB337_330.out
       have hns105_3 := NB347_330.out
       have hms105_0 := NB330_329.out
       have hms105_2 := NB330_337.out
       have hms105_3 := NB330_347.out
       refine skip_ (w1 := ?_) (by rfl) rfl ?_ ?_
       rotate_left
       ·go_simp
        rfl
       refine hK.out _ _ ⟨((cell_far (p := ⟨gb330, _, none⟩) NB337_330.out _).trans (((cell_far (p := ⟨gb330, _, none⟩) NB337_330.out _).trans (((cell_far (p := ⟨gb330, _, none⟩) NB337_330.out _).trans (hHeld.1)))))), ((cell_far (p := ⟨gb330, _, none⟩) NB337_330.out _).trans (((cell_far (p := ⟨gb330, _, none⟩) NB337_330.out _).trans (((cell_far (p := ⟨gb330, _, none⟩) NB337_330.out _).trans (hHeld.2.1)))))), ((cell_far (p := ⟨gb330, _, none⟩) NB337_330.out _).trans (((cell_far (p := ⟨gb330, _, none⟩) NB337_330.out _).trans (((cell_far (p := ⟨gb330, _, none⟩) NB337_330.out _).trans (hHeld.2.2.1)))))), ((cell_far (p := ⟨gb330, _, none⟩) NB347_330.out _).trans (((cell_far (p := ⟨gb330, _, none⟩) NB347_330.out _).trans (((cell_far (p := ⟨gb330, _, none⟩) NB347_330.out _).trans (hHeld.2.2.2.1)))))), ((cell_far (p := ⟨gb330, _, none⟩) NB347_330.out _).trans (((cell_far (p := ⟨gb330, _, none⟩) NB347_330.out _).trans (((cell_far (p := ⟨gb330, _, none⟩) NB347_330.out _).trans (hHeld.2.2.2.2.1)))))), ((cell_far (p := ⟨gb330, _, none⟩) NB347_330.out _).trans (((cell_far (p := ⟨gb330, _, none⟩) NB347_330.out _).trans (((cell_far (p := ⟨gb330, _, none⟩) NB347_330.out _).trans (hHeld.2.2.2.2.2))))))⟩ (fun hHeld => ?_)
       clear hK K
       refine pure_ (i := 4) (N := some 8) (v := ?_) (a' := ?_) #[true, true, true, true, true] rfl rfl (by kernel_rfl) (fun _ _ _ h => h) (Or.inl ⟨by rfl, ?_⟩) ?_ ?_
       rotate_left
       ·intro w'
        go_simp
        with_reducible rfl
       rotate_left
       ·simp only [Act.put, setIfInBounds_toArray, set_cons_zero, set_cons_succ, i64_w, i32_w]
        rfl
       refine done_ (by kernel_rfl) ?_
       try go_wp2
       refine bodyPost_ret (results_list (rs := [.cell 6 66, .cell 7 68, .tmp 8]) rfl (by simp) (.cell gb329 66 #[.int .u64 x338000_2, .slice Ao99 x338001_2.length co99, .string x338002_2] (0, 0) _ rfl (by refine bT ?_; refine bR ?_ NB329_330.out _; refine bT ?_; refine bR ?_ NB329_330.out _; refine bT ?_; refine bR ?_ NB329_330.out _; refine bT ?_; refine bU (cs := #[.int .u64 x338000_2, .slice Ao99 x338001_2.length co99, .string x330002_2]) ?_ 2 _ rfl; refine bT ?_; refine bU (cs := #[.int .u64 x338000_2, .slice none 0 0, .string x330002_2]) ?_ 1 _ rfl; refine bT ?_; refine bU (cs := #[.int .u64 x330000_2, .slice none 0 0, .string x330002_2]) ?_ 0 _ rfl; exact bT BK329.out) Tryd.underlying66 rfl (by kernel_rfl) (.cell gb330 68 #[.int .u64 x348000_2, .slice Ao103 x348001_2.length co103, .string x348002_2] (0, 0) _ rfl (by refine bT ?_; refine bU (cs := #[.int .u64 x348000_2, .slice Ao103 x348001_2.length co103, .string x331002_2]) ?_ 2 _ rfl; refine bT ?_; refine bU (cs := #[.int .u64 x348000_2, .slice none 0 0, .string x331002_2]) ?_ 1 _ rfl; refine bT ?_; refine bU (cs := #[.int .u64 x331000_2, .slice none 0 0, .string x331002_2]) ?_ 0 _ rfl; refine bT ?_; refine bR ?_ NB330_329.out _; refine bT ?_; refine bR ?_ NB330_329.out _; refine bT ?_; refine bR ?_ NB330_329.out _; exact bT BK330.out) Tryd.underlying68 rfl (by kernel_rfl) (.tmp .nil)))) rfl ?_
       exact ⟨_, _, by first | rfl | (simp [errW_none, errW_some] <;> rfl) | (simp [*, errW_none, errW_some] <;> rfl), by apply Kd.N_to; exact Kd.N_mono (Kd.N_far (p := ⟨gb330, 2, none⟩) (Kd.N_far (p := ⟨gb330, 1, none⟩) (Kd.N_far (p := ⟨gb330, 0, none⟩) (Kd.N_far (p := ⟨gb329, 2, none⟩) (Kd.N_far (p := ⟨gb329, 1, none⟩) (Kd.N_far (p := ⟨gb329, 0, none⟩) (Kd.N_mono (Kd.N_mono HO_338001.out (fun k_ hk => (⟨hk, hk.2.2.1⟩ : _ ∧ k_ ≠ gb329))) (fun k_ hk => (⟨hk, hk.1.2.2.2.1⟩ : _ ∧ k_ ≠ gb330))) (fun _ hk => hk.1.2) (.int .u64 x338000_2)) (fun _ hk => hk.1.2) (.slice Ao99 x338001_2.length co99)) (fun _ hk => hk.1.2) (.string x338002_2)) (fun _ hk => hk.2) (.int .u64 x348000_2)) (fun _ hk => hk.2) (.slice Ao103 x348001_2.length co103)) (fun _ hk => hk.2) (.string x348002_2)) (fun _ hk => ⟨hk.1.1.1, hk.1.1.2.1⟩), by apply Kd.N_to; exact Kd.N_mono (Kd.N_far (p := ⟨gb330, 2, none⟩) (Kd.N_far (p := ⟨gb330, 1, none⟩) (Kd.N_far (p := ⟨gb330, 0, none⟩) (Kd.N_far (p := ⟨gb329, 2, none⟩) (Kd.N_far (p := ⟨gb329, 1, none⟩) (Kd.N_far (p := ⟨gb329, 0, none⟩) (Kd.N_mono (Kd.N_mono HO_348001.out (fun k_ hk => (⟨hk, hk.2.2.1⟩ : _ ∧ k_ ≠ gb329))) (fun k_ hk => (⟨hk, hk.1.2.2.2.1⟩ : _ ∧ k_ ≠ gb330))) (fun _ hk => hk.1.2) (.int .u64 x338000_2)) (fun _ hk => hk.1.2) (.slice Ao99 x338001_2.length co99)) (fun _ hk => hk.1.2) (.string x338002_2)) (fun _ hk => hk.2) (.int .u64 x348000_2)) (fun _ hk => hk.2) (.slice Ao103 x348001_2.length co103)) (fun _ hk => hk.2) (.string x348002_2)) (fun _ hk => ⟨hk.1.1.1, hk.1.1.2.1⟩), bA⟩
end Go.Proofs.YtboommbclbjlnaaDoor.Fn
end
section
namespace Go.Proofs.YtboommbclbjlnaaDoor.Fn
open Go.RowKit Go.Proofs.YtboommbclbjlnaaDoorW.PrintWords Go.Proofs.YtboommbclbjlnaaDoorW.PrintLast Go.Proofs.YtboommbclbjlnaaDoorW.PrintMore Go.Proofs.YtboommbclbjlnaaDoor.Lf
attribute [local go_sem] max2_int min2_int max_two min_two max_three min_three max_four min_four   -- for this text's walks alone
set_option linter.unusedVariables false
set_option linter.unusedSimpArgs false
def l13_shortSteps.l0 : Nat → List (S24) → Int → Option (Bool)
 | 0, _, _ => none
 | k + 1, x0, x3 => if x3 < (x0.length : Int) then (if 0 ≤ x3 then (if (((rd_T24 x0 x3).f4).size : Int) > 200 then (some false) else (l13_shortSteps.l0 k x0 (wrap64 (x3 + 1)))) else (none)) else (some true)
def l13_shortSteps.f (k : Nat) (l0 : List (S24)) : Option (Bool) := if (l0.length : Int) > 60 then (some false) else (l13_shortSteps.l0 k l0 0)
theorem l13_shortSteps.mono_l : ∀ k, (∀ y0 y1, LeO (l13_shortSteps.l0 k y0 y1) (l13_shortSteps.l0 (k + 1) y0 y1))
 | 0 => fun _ _ r h => by simp [l13_shortSteps.l0] at h
 | k + 1 => by
  have ih0 := l13_shortSteps.mono_l k
  ·intro y0 y1
   unfold l13_shortSteps.l0
   repeat' first
   | (with_reducible exact ih0 _ _)
   | (with_reducible exact LeO.refl _)
   | (with_reducible exact LeO.none _)
   | (with_reducible refine LeO.ite ?_ ?_)
   | (with_reducible refine LeO.bind ?_ (fun _ => ?_))
   | exact ih0 _ _
   | exact LeO.none _
   | refine LeO.ite ?_ ?_
   | refine LeO.bind ?_ (fun _ => ?_)
theorem l13_shortSteps.mono : ∀ a0 k, LeO (l13_shortSteps.f k a0) (l13_shortSteps.f (k + 1) a0) := by
 intro a0 k
 have ih0 := l13_shortSteps.mono_l k
 unfold l13_shortSteps.f
 repeat' first
   | (with_reducible exact ih0 _ _)
   | (with_reducible exact LeO.refl _)
   | (with_reducible exact LeO.none _)
   | (with_reducible refine LeO.ite ?_ ?_)
   | (with_reducible refine LeO.bind ?_ (fun _ => ?_))
   | exact ih0 _ _
   | exact LeO.none _
   | refine LeO.ite ?_ ?_
   | refine LeO.bind ?_ (fun _ => ?_)
set_option maxHeartbeats 8000000 in
set_option maxRecDepth 100000 in
theorem l13_shortSteps.calls (k : Nat) (A0 : Option Addr) (c0 : Nat) (l0 : List (S24)) (r : Bool) (w : World) (hr0 : Kd.C k24 w A0 l0.length l0) (hc0 : l0.length ≤ c0) (h : l13_shortSteps.f k l0 = some r) :
  Calls Tryd.prog 32 #[.slice A0 l0.length c0] w fun e w' => e = .returned (.bool r) ∧ Drawn0 w w' := by
 have HR0 := Ax.mk hr0
 have HC0 := Ax.mk hc0
 clear hr0 hc0
 have H : (if (l0.length : Int) > 60 then (some false) else (l13_shortSteps.l0 k l0 0)) = some r := h
 clear h
 by_cases c2 : (l0.length : Int) > 60
 ·rw [if_pos c2] at H
  have c2b0 : decide (60 < (l0.length : Int)) = true := decide_eq_true c2
  have c2b1 : decide (60 < l0.length) = true := decide_eq_true (by omega)
  clear c2
  obtain rfl := Option.some.inj H
  go_enter Tryd.func32, Tryd.ntmps32
  go_wp2
  go_ret
  exact ⟨by first | rfl | (simp; done) | (simp [*]; done), by repeat (first | exact Drawn0.refl _ | apply Drawn0.step)⟩
 ·rw [if_neg c2] at H
  have c2b0 : decide (60 < (l0.length : Int)) = false := decide_eq_false c2
  have c2b1 : decide (60 < l0.length) = false := decide_eq_false (by omega)
  clear c2
  have H' := Ax.mk H
  clear H
  go_enter Tryd.func32, Tryd.ntmps32
  go_wp2
  go_loopg [3] k (fun kq v3 w' => ∃ (x3_1 : Int), v3 = .int .i64 x3_1 ∧ Ax (l13_shortSteps.l0 kq l0 x3_1 = some r) ∧ Ax (kq ≤ k) ∧ Drawn0 w w')
  case atStart => exact ⟨(0), (by first | rfl | (simp; done) | (simp [*]; done)), H', ⟨Nat.le_refl _⟩, by repeat (first | exact Drawn0.refl _ | apply Drawn0.step)⟩
  case round =>
   clear H'
   try clear c2
   try clear c2b0
   try clear c2b1
   try clear p2
   obtain ⟨x3_1, rfl, HA, HK1, ⟨m1, rfl⟩⟩ := hrel
   cases gk with
   | zero => exact absurd HA.out (by simp [l13_shortSteps.l0])
   | succ k1 =>
    have H := HA.out
    clear HA
    simp only [l13_shortSteps.l0] at H
    by_cases c3 : x3_1 < (l0.length : Int)
    ·rw [if_pos c3] at H
     have c3b0 : decide (x3_1 < (l0.length : Int)) = true := decide_eq_true c3
     clear c3
     by_cases c4 : 0 ≤ x3_1
     ·rw [if_pos c4] at H
      have c4b0 : decide (0 ≤ x3_1) = true := decide_eq_true c4
      clear c4
      by_cases c5 : (((rd_T24 l0 x3_1).f4).size : Int) > 200
      ·rw [if_pos c5] at H
       have c5b0 : decide (200 < (((rd_T24 l0 x3_1).f4).size : Int)) = true := decide_eq_true c5
       have c5b1 : decide (200 < ((rd_T24 l0 x3_1).f4).size) = true := decide_eq_true (by omega)
       clear c5
       obtain rfl := Option.some.inj H
       have p201 : 0 ≤ (x3_1 : Int) := of_decide_eq_true (by first | (with_reducible assumption) | assumption)
       have q201 : x3_1 < (l0.length : Int) := of_decide_eq_true (by first | (with_reducible assumption) | assumption)
       obtain ⟨ad201, e201, hx201_0, hx201_1, hx201_2, hx201_3, hx201_4⟩ := at_T24 HR0.out x3_1 p201 q201
       cases e201
       replace p201 := eq_true p201
       replace q201 := eq_true q201
       go_wp2
       go_ret
       exact ⟨by first | rfl | (simp; done) | (simp [*]; done), by repeat (first | exact Drawn0.refl _ | apply Drawn0.step)⟩
      ·rw [if_neg c5] at H
       have c5b0 : decide (200 < (((rd_T24 l0 x3_1).f4).size : Int)) = false := decide_eq_false c5
       have c5b1 : decide (200 < ((rd_T24 l0 x3_1).f4).size) = false := decide_eq_false (by omega)
       clear c5
       have H' := Ax.mk H
       clear H
       have p201 : 0 ≤ (x3_1 : Int) := of_decide_eq_true (by first | (with_reducible assumption) | assumption)
       have q201 : x3_1 < (l0.length : Int) := of_decide_eq_true (by first | (with_reducible assumption) | assumption)
       obtain ⟨ad201, e201, hx201_0, hx201_1, hx201_2, hx201_3, hx201_4⟩ := at_T24 HR0.out x3_1 p201 q201
       cases e201
       replace p201 := eq_true p201
       replace q201 := eq_true q201
       go_wp2
       go_roundg k1
       case measure => have := HK1.out; omega
       case rel => exact ⟨(wrap64 (x3_1 + 1)), (by first | rfl | (simp; done) | (simp [*]; done)), H', ⟨by have := HK1.out; omega⟩, by repeat (first | exact Drawn0.refl _ | apply Drawn0.step)⟩
     ·rw [if_neg c4] at H
      exact absurd H (by simp)
    ·rw [if_neg c3] at H
     have c3b0 : decide (x3_1 < (l0.length : Int)) = false := decide_eq_false c3
     clear c3
     obtain rfl := Option.some.inj H
     go_wp2
     go_ret
     exact ⟨by first | rfl | (simp; done) | (simp [*]; done), by repeat (first | exact Drawn0.refl _ | apply Drawn0.step)⟩
end Go.Proofs.YtboommbclbjlnaaDoor.Fn
end
