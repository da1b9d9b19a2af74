-- Packed by pack.py, a program of this session, out of texts of this claim.
import Derived.Test.YtboommbclbjlnaaDoorClJournalOnce1
import Derived.LoopTactic
section
-- Written by printx.py, a program of this session over the kit's print: each Go function as a plain Lean function, and that the Go code computes it.
namespace Go.Proofs.YtboommbclbjlnaaDoor.Fn
open Go.RowKit Go.Proofs.YtboommbclbjlnaaDoorW.PrintWords Go.Proofs.YtboommbclbjlnaaDoorW.PrintLast Go.Proofs.YtboommbclbjlnaaDoorW.PrintMore Go.Proofs.YtboommbclbjlnaaDoor.Lf
attribute [local go_sem] max2_int min2_int max_two min_two max_three min_three max_four min_four   -- for this text's walks alone
set_option linter.unusedVariables false
set_option linter.unusedSimpArgs false
def l13_sameSteps.l0 : Nat → List (S24) → List (S26) → Int → Option (Bool)
 | 0, _, _, _ => none
 | k + 1, x0, x1, x5 => if x5 < (x0.length : Int) then (if 0 ≤ x5 then (if x5 < (x1.length : Int) then (if ((rd_T24 x0 x5).f0) = ((rd_T26 x1 x5).f0) then (if ((rd_T24 x0 x5).f1) = ((rd_T26 x1 x5).f1) then (if ((rd_T24 x0 x5).f2) = ((rd_T26 x1 x5).f2) then (if ((rd_T24 x0 x5).f3) = ((rd_T26 x1 x5).f3) then (if ((rd_T24 x0 x5).f4).toList = ((rd_T26 x1 x5).f4).toList then (l13_sameSteps.l0 k x0 x1 (wrap64 (x5 + 1))) else (none)) else (none)) else (none)) else (none)) else (none)) else (none)) else (none)) else (some true)
def l13_sameSteps.f (k : Nat) (l0 : List (S24)) (l1 : List (S26)) : Option (Bool) := if (l0.length : Int) = (l1.length : Int) then (l13_sameSteps.l0 k l0 l1 0) else (none)
theorem l13_sameSteps.mono_l : ∀ k, (∀ y0 y1 y2, LeO (l13_sameSteps.l0 k y0 y1 y2) (l13_sameSteps.l0 (k + 1) y0 y1 y2))
 | 0 => fun _ _ _ r h => by simp [l13_sameSteps.l0] at h
 | k + 1 => by
  have ih0 := l13_sameSteps.mono_l k
  ·intro y0 y1 y2
   unfold l13_sameSteps.l0
   repeat' first
   | (with_reducible exact ih0 _ _ _)
   | (with_reducible exact LeO.refl _)
   | (with_reducible exact LeO.none _)
   | (with_reducible refine LeO.ite ?_ ?_)
   | (with_reducible refine LeO.bind ?_ (fun _ => ?_))
   | exact ih0 _ _ _
   | exact LeO.none _
   | refine LeO.ite ?_ ?_
   | refine LeO.bind ?_ (fun _ => ?_)
theorem l13_sameSteps.mono : ∀ a0 a1 k, LeO (l13_sameSteps.f k a0 a1) (l13_sameSteps.f (k + 1) a0 a1) := by
 intro a0 a1 k
 have ih0 := l13_sameSteps.mono_l k
 unfold l13_sameSteps.f
 repeat' first
   | (with_reducible exact ih0 _ _ _)
   | (with_reducible exact LeO.refl _)
   | (with_reducible exact LeO.none _)
   | (with_reducible refine LeO.ite ?_ ?_)
   | (with_reducible refine LeO.bind ?_ (fun _ => ?_))
   | exact ih0 _ _ _
   | exact LeO.none _
   | refine LeO.ite ?_ ?_
   | refine LeO.bind ?_ (fun _ => ?_)
set_option maxHeartbeats 8000000 in
set_option maxRecDepth 100000 in
theorem l13_sameSteps.calls (k : Nat) (A0 : Option Addr) (c0 : Nat) (l0 : List (S24)) (A1 : Option Addr) (c1 : Nat) (l1 : List (S26)) (r : Bool) (w : World) (hr0 : Kd.C k24 w A0 l0.length l0) (hc0 : l0.length ≤ c0) (hr1 : Kd.C k26 w A1 l1.length l1) (hc1 : l1.length ≤ c1) (h : l13_sameSteps.f k l0 l1 = some r) :
  Calls Tryd.prog 35 #[.slice A0 l0.length c0, .slice A1 l1.length c1] w fun e w' => e = .returned (.bool r) ∧ Below w.heap.size w w' := by
 have hu24 := Tryd.underlying24
 have hu26 := Tryd.underlying26
 have HR0 := Ax.mk hr0
 have HC0 := Ax.mk hc0
 clear hr0 hc0
 have HR1 := Ax.mk hr1
 have HC1 := Ax.mk hc1
 clear hr1 hc1
 have HB := Ax.mk (Below.refl w.heap.size w)
 have H : (if (l0.length : Int) = (l1.length : Int) then (l13_sameSteps.l0 k l0 l1 0) else (none)) = some r := h
 clear h
 by_cases c3 : (l0.length : Int) = (l1.length : Int)
 ·rw [if_pos c3] at H
  have c3b0 : ((l0.length : Int) == (l1.length : Int)) = true := beq_iff_eq.mpr c3
  have c3b1 : ((l0.length : Int) != (l1.length : Int)) = false := bne_eq_false_iff_eq.mpr c3
  have c3b2 : (l0.length == l1.length) = true := by first | simpa using c3 | (simp at c3 ⊢; omega)
  clear c3
  have H' := Ax.mk H
  clear H
  go_enter Tryd.func35, Tryd.ntmps35
  go_wp2
  go_loopg [5] k (fun kq v5 w' => ∃ (x5_1 : Int), v5 = .int .i64 x5_1 ∧ Ax (l13_sameSteps.l0 kq l0 l1 x5_1 = some r) ∧ Ax (kq ≤ k) ∧ Ax (Below w.heap.size w w'))
  case atStart => exact ⟨(0), (by first | rfl | (simp; done) | (simp [*]; done)), H', ⟨Nat.le_refl _⟩, ⟨bA⟩⟩
  case round =>
   clear H'
   try clear c1
   try clear p2
   try clear c3
   try clear c3b0
   try clear c3b1
   try clear c3b2
   obtain ⟨x5_1, rfl, HA, HK1, HB⟩ := hrel
   cases gk with
   | zero => exact absurd HA.out (by simp [l13_sameSteps.l0])
   | succ k1 =>
    have H := HA.out
    clear HA
    simp only [l13_sameSteps.l0] at H
    by_cases c4 : x5_1 < (l0.length : Int)
    ·rw [if_pos c4] at H
     have c4b0 : decide (x5_1 < (l0.length : Int)) = true := decide_eq_true c4
     clear c4
     by_cases c5 : 0 ≤ x5_1
     ·rw [if_pos c5] at H
      have c5b0 : decide (0 ≤ x5_1) = true := decide_eq_true c5
      clear c5
      by_cases c6 : x5_1 < (l1.length : Int)
      ·rw [if_pos c6] at H
       have c6b0 : decide (x5_1 < (l1.length : Int)) = true := decide_eq_true c6
       clear c6
       by_cases c7 : ((rd_T24 l0 x5_1).f0) = ((rd_T26 l1 x5_1).f0)
       ·rw [if_pos c7] at H
        have c7b0 : (((rd_T24 l0 x5_1).f0) == ((rd_T26 l1 x5_1).f0)) = true := beq_iff_eq.mpr c7
        have c7b1 : (((rd_T24 l0 x5_1).f0) != ((rd_T26 l1 x5_1).f0)) = false := bne_eq_false_iff_eq.mpr c7
        clear c7
        by_cases c8 : ((rd_T24 l0 x5_1).f1) = ((rd_T26 l1 x5_1).f1)
        ·rw [if_pos c8] at H
         have c8b0 : (((rd_T24 l0 x5_1).f1) == ((rd_T26 l1 x5_1).f1)) = true := beq_iff_eq.mpr c8
         have c8b1 : (((rd_T24 l0 x5_1).f1) != ((rd_T26 l1 x5_1).f1)) = false := bne_eq_false_iff_eq.mpr c8
         clear c8
         by_cases c9 : ((rd_T24 l0 x5_1).f2) = ((rd_T26 l1 x5_1).f2)
         ·rw [if_pos c9] at H
          have c9b0 : (((rd_T24 l0 x5_1).f2) == ((rd_T26 l1 x5_1).f2)) = true := beq_iff_eq.mpr c9
          have c9b1 : (((rd_T24 l0 x5_1).f2) != ((rd_T26 l1 x5_1).f2)) = false := bne_eq_false_iff_eq.mpr c9
          clear c9
          by_cases c10 : ((rd_T24 l0 x5_1).f3) = ((rd_T26 l1 x5_1).f3)
          ·rw [if_pos c10] at H
           have c10b0 : (((rd_T24 l0 x5_1).f3) == ((rd_T26 l1 x5_1).f3)) = true := beq_iff_eq.mpr c10
           have c10b1 : (((rd_T24 l0 x5_1).f3) != ((rd_T26 l1 x5_1).f3)) = false := bne_eq_false_iff_eq.mpr c10
           clear c10
           by_cases c11 : ((rd_T24 l0 x5_1).f4).toList = ((rd_T26 l1 x5_1).f4).toList
           ·rw [if_pos c11] at H
            have c11b0 : (((rd_T24 l0 x5_1).f4).toList == ((rd_T26 l1 x5_1).f4).toList) = true := beq_iff_eq.mpr c11
            have c11b1 : (((rd_T24 l0 x5_1).f4).toList != ((rd_T26 l1 x5_1).f4).toList) = false := bne_eq_false_iff_eq.mpr c11
            clear c11
            have H' := Ax.mk H
            clear H
            have p210 : 0 ≤ (x5_1 : Int) := of_decide_eq_true (by first | (with_reducible assumption) | assumption)
            have q210 : x5_1 < (l0.length : Int) := of_decide_eq_true (by first | (with_reducible assumption) | assumption)
            obtain ⟨ad210, e210, hx210_0, hx210_1, hx210_2, hx210_3, hx210_4⟩ := at_T24 HR0.out x5_1 p210 q210
            cases e210
            replace hx210_0 := (HB.out.cell (World.block_lt_of_cell? w _ hx210_0)).trans hx210_0
            replace hx210_1 := (HB.out.cell (World.block_lt_of_cell? w _ hx210_1)).trans hx210_1
            replace hx210_2 := (HB.out.cell (World.block_lt_of_cell? w _ hx210_2)).trans hx210_2
            replace hx210_3 := (HB.out.cell (World.block_lt_of_cell? w _ hx210_3)).trans hx210_3
            replace hx210_4 := (HB.out.cell (World.block_lt_of_cell? w _ hx210_4)).trans hx210_4
            replace p210 := eq_true p210
            replace q210 := eq_true q210
            go_wp2_with (first | ((with_reducible refine gate_dst (N := 6) rfl ?_); refine box_event ?hg (N := 6) ?hd (cs := #[.int .i64 0, .int .i64 0, .int .i64 0, .int .u64 0, .string (⟨#[]⟩ : ByteArray)]) (t := 24) ?hr ?_; (case hd => rfl); (case hg => rfl); (case hr => first | (go_simp; done) | (go_simp; rfl)); intro gb211 hg w12 hbox hb; have n0_ := Ax.mk (bP bA hb); have n1_ := Ax.mk (hbox); have n2_ := Ax.mk ((ge_new hg : w.heap.size ≤ gb211)); have n3_ := n2_; clear HB; have HB := n0_; have BK211 := n1_; have GW211 := n2_; have GE211 := n3_; clear n0_ n1_ n2_ n3_; clear hb hbox hg; have hcz13_0 : w12.cell? ⟨gb211, 0, none⟩ = some (.int .i64 0) := (bC BK211.out 0).trans rfl; have hcz13_1 : w12.cell? ⟨gb211, 1, none⟩ = some (.int .i64 0) := (bC BK211.out 1).trans rfl; have hcz13_2 : w12.cell? ⟨gb211, 2, none⟩ = some (.int .i64 0) := (bC BK211.out 2).trans rfl; have hcz13_3 : w12.cell? ⟨gb211, 3, none⟩ = some (.int .u64 0) := (bC BK211.out 3).trans rfl; have hcz13_4 : w12.cell? ⟨gb211, 4, none⟩ = some (.string (⟨#[]⟩ : ByteArray)) := (bC BK211.out 4).trans rfl; have hfz13_0 := bF BK211.out 0; have hfz13_1 := bF BK211.out 1; have hfz13_2 := bF BK211.out 2; have hfz13_3 := bF BK211.out 3; have hfz13_4 := bF BK211.out 4; have p212 : 0 ≤ (x5_1 : Int) := of_decide_eq_true (by first | (with_reducible assumption) | assumption); have q212 : x5_1 < (l1.length : Int) := of_decide_eq_true (by first | (with_reducible assumption) | assumption); obtain ⟨ad212, e212, hx212_0, hx212_1, hx212_2, hx212_3, hx212_4⟩ := at_T26 HR1.out x5_1 p212 q212; cases e212; have hn212_0 : ad212.block ≠ gb211 := Nat.ne_of_lt (Nat.lt_of_lt_of_le (by have := World.block_lt_of_cell? _ _ hx212_0; first | rwa [add_block] at this | exact this) GW211.out); have hn212_1 : ad212.block ≠ gb211 := Nat.ne_of_lt (Nat.lt_of_lt_of_le (by have := World.block_lt_of_cell? _ _ hx212_0; first | rwa [add_block] at this | exact this) GW211.out); have hn212_2 : ad212.block ≠ gb211 := Nat.ne_of_lt (Nat.lt_of_lt_of_le (by have := World.block_lt_of_cell? _ _ hx212_0; first | rwa [add_block] at this | exact this) GW211.out); have hn212_3 : ad212.block ≠ gb211 := Nat.ne_of_lt (Nat.lt_of_lt_of_le (by have := World.block_lt_of_cell? _ _ hx212_0; first | rwa [add_block] at this | exact this) GW211.out); have hn212_4 : ad212.block ≠ gb211 := Nat.ne_of_lt (Nat.lt_of_lt_of_le (by have := World.block_lt_of_cell? _ _ hx212_0; first | rwa [add_block] at this | exact this) GW211.out); replace hx212_0 := (HB.out.cell (World.block_lt_of_cell? w _ hx212_0)).trans hx212_0; replace hx212_1 := (HB.out.cell (World.block_lt_of_cell? w _ hx212_1)).trans hx212_1; replace hx212_2 := (HB.out.cell (World.block_lt_of_cell? w _ hx212_2)).trans hx212_2; replace hx212_3 := (HB.out.cell (World.block_lt_of_cell? w _ hx212_3)).trans hx212_3; replace hx212_4 := (HB.out.cell (World.block_lt_of_cell? w _ hx212_4)).trans hx212_4; replace hx212_0 := (cell_far (p := ⟨gb211, 0, none⟩) (by first | (rw [add_block]; exact hn212_0) | (show (Addr.add _ _).block ≠ _; rw [add_block]; exact hn212_0) | exact hn212_0) (.int .i64 ((rd_T24 l0 x5_1).f0))).trans hx212_0; replace hx212_1 := (cell_far (p := ⟨gb211, 0, none⟩) (by first | (rw [add_block]; exact hn212_0) | (show (Addr.add _ _).block ≠ _; rw [add_block]; exact hn212_0) | exact hn212_0) (.int .i64 ((rd_T24 l0 x5_1).f0))).trans hx212_1; replace hx212_2 := (cell_far (p := ⟨gb211, 0, none⟩) (by first | (rw [add_block]; exact hn212_0) | (show (Addr.add _ _).block ≠ _; rw [add_block]; exact hn212_0) | exact hn212_0) (.int .i64 ((rd_T24 l0 x5_1).f0))).trans hx212_2; replace hx212_3 := (cell_far (p := ⟨gb211, 0, none⟩) (by first | (rw [add_block]; exact hn212_0) | (show (Addr.add _ _).block ≠ _; rw [add_block]; exact hn212_0) | exact hn212_0) (.int .i64 ((rd_T24 l0 x5_1).f0))).trans hx212_3; replace hx212_4 := (cell_far (p := ⟨gb211, 0, none⟩) (by first | (rw [add_block]; exact hn212_0) | (show (Addr.add _ _).block ≠ _; rw [add_block]; exact hn212_0) | exact hn212_0) (.int .i64 ((rd_T24 l0 x5_1).f0))).trans hx212_4; replace hx212_0 := (cell_far (p := ⟨gb211, 1, none⟩) (by first | (rw [add_block]; exact hn212_1) | (show (Addr.add _ _).block ≠ _; rw [add_block]; exact hn212_1) | exact hn212_1) (.int .i64 ((rd_T24 l0 x5_1).f1))).trans hx212_0; replace hx212_1 := (cell_far (p := ⟨gb211, 1, none⟩) (by first | (rw [add_block]; exact hn212_1) | (show (Addr.add _ _).block ≠ _; rw [add_block]; exact hn212_1) | exact hn212_1) (.int .i64 ((rd_T24 l0 x5_1).f1))).trans hx212_1; replace hx212_2 := (cell_far (p := ⟨gb211, 1, none⟩) (by first | (rw [add_block]; exact hn212_1) | (show (Addr.add _ _).block ≠ _; rw [add_block]; exact hn212_1) | exact hn212_1) (.int .i64 ((rd_T24 l0 x5_1).f1))).trans hx212_2; replace hx212_3 := (cell_far (p := ⟨gb211, 1, none⟩) (by first | (rw [add_block]; exact hn212_1) | (show (Addr.add _ _).block ≠ _; rw [add_block]; exact hn212_1) | exact hn212_1) (.int .i64 ((rd_T24 l0 x5_1).f1))).trans hx212_3; replace hx212_4 := (cell_far (p := ⟨gb211, 1, none⟩) (by first | (rw [add_block]; exact hn212_1) | (show (Addr.add _ _).block ≠ _; rw [add_block]; exact hn212_1) | exact hn212_1) (.int .i64 ((rd_T24 l0 x5_1).f1))).trans hx212_4; replace hx212_0 := (cell_far (p := ⟨gb211, 2, none⟩) (by first | (rw [add_block]; exact hn212_2) | (show (Addr.add _ _).block ≠ _; rw [add_block]; exact hn212_2) | exact hn212_2) (.int .i64 ((rd_T24 l0 x5_1).f2))).trans hx212_0; replace hx212_1 := (cell_far (p := ⟨gb211, 2, none⟩) (by first | (rw [add_block]; exact hn212_2) | (show (Addr.add _ _).block ≠ _; rw [add_block]; exact hn212_2) | exact hn212_2) (.int .i64 ((rd_T24 l0 x5_1).f2))).trans hx212_1; replace hx212_2 := (cell_far (p := ⟨gb211, 2, none⟩) (by first | (rw [add_block]; exact hn212_2) | (show (Addr.add _ _).block ≠ _; rw [add_block]; exact hn212_2) | exact hn212_2) (.int .i64 ((rd_T24 l0 x5_1).f2))).trans hx212_2; replace hx212_3 := (cell_far (p := ⟨gb211, 2, none⟩) (by first | (rw [add_block]; exact hn212_2) | (show (Addr.add _ _).block ≠ _; rw [add_block]; exact hn212_2) | exact hn212_2) (.int .i64 ((rd_T24 l0 x5_1).f2))).trans hx212_3; replace hx212_4 := (cell_far (p := ⟨gb211, 2, none⟩) (by first | (rw [add_block]; exact hn212_2) | (show (Addr.add _ _).block ≠ _; rw [add_block]; exact hn212_2) | exact hn212_2) (.int .i64 ((rd_T24 l0 x5_1).f2))).trans hx212_4; replace hx212_0 := (cell_far (p := ⟨gb211, 3, none⟩) (by first | (rw [add_block]; exact hn212_3) | (show (Addr.add _ _).block ≠ _; rw [add_block]; exact hn212_3) | exact hn212_3) (.int .u64 ((rd_T24 l0 x5_1).f3))).trans hx212_0; replace hx212_1 := (cell_far (p := ⟨gb211, 3, none⟩) (by first | (rw [add_block]; exact hn212_3) | (show (Addr.add _ _).block ≠ _; rw [add_block]; exact hn212_3) | exact hn212_3) (.int .u64 ((rd_T24 l0 x5_1).f3))).trans hx212_1; replace hx212_2 := (cell_far (p := ⟨gb211, 3, none⟩) (by first | (rw [add_block]; exact hn212_3) | (show (Addr.add _ _).block ≠ _; rw [add_block]; exact hn212_3) | exact hn212_3) (.int .u64 ((rd_T24 l0 x5_1).f3))).trans hx212_2; replace hx212_3 := (cell_far (p := ⟨gb211, 3, none⟩) (by first | (rw [add_block]; exact hn212_3) | (show (Addr.add _ _).block ≠ _; rw [add_block]; exact hn212_3) | exact hn212_3) (.int .u64 ((rd_T24 l0 x5_1).f3))).trans hx212_3; replace hx212_4 := (cell_far (p := ⟨gb211, 3, none⟩) (by first | (rw [add_block]; exact hn212_3) | (show (Addr.add _ _).block ≠ _; rw [add_block]; exact hn212_3) | exact hn212_3) (.int .u64 ((rd_T24 l0 x5_1).f3))).trans hx212_4; replace hx212_0 := (cell_far (p := ⟨gb211, 4, none⟩) (by first | (rw [add_block]; exact hn212_4) | (show (Addr.add _ _).block ≠ _; rw [add_block]; exact hn212_4) | exact hn212_4) (.string ((rd_T24 l0 x5_1).f4))).trans hx212_0; replace hx212_1 := (cell_far (p := ⟨gb211, 4, none⟩) (by first | (rw [add_block]; exact hn212_4) | (show (Addr.add _ _).block ≠ _; rw [add_block]; exact hn212_4) | exact hn212_4) (.string ((rd_T24 l0 x5_1).f4))).trans hx212_1; replace hx212_2 := (cell_far (p := ⟨gb211, 4, none⟩) (by first | (rw [add_block]; exact hn212_4) | (show (Addr.add _ _).block ≠ _; rw [add_block]; exact hn212_4) | exact hn212_4) (.string ((rd_T24 l0 x5_1).f4))).trans hx212_2; replace hx212_3 := (cell_far (p := ⟨gb211, 4, none⟩) (by first | (rw [add_block]; exact hn212_4) | (show (Addr.add _ _).block ≠ _; rw [add_block]; exact hn212_4) | exact hn212_4) (.string ((rd_T24 l0 x5_1).f4))).trans hx212_3; replace hx212_4 := (cell_far (p := ⟨gb211, 4, none⟩) (by first | (rw [add_block]; exact hn212_4) | (show (Addr.add _ _).block ≠ _; rw [add_block]; exact hn212_4) | exact hn212_4) (.string ((rd_T24 l0 x5_1).f4))).trans hx212_4; clear hn212_0; clear hn212_1; clear hn212_2; clear hn212_3; clear hn212_4; replace p212 := eq_true p212; replace q212 := eq_true q212) | ((with_reducible refine gate_dst (N := 7) rfl ?_); refine box_event ?hg (N := 7) ?hd (cs := #[.int .i64 0, .int .i64 0, .int .i64 0, .int .u64 0, .string (⟨#[]⟩ : ByteArray)]) (t := 26) ?hr ?_; (case hd => rfl); (case hg => rfl); (case hr => first | (go_simp; done) | (go_simp; rfl)); intro gb213 hg w14 hbox hb; have n0_ := Ax.mk (bB (g := gb211) (o := .cells #[.int .i64 ((rd_T24 l0 x5_1).f0), .int .i64 ((rd_T24 l0 x5_1).f1), .int .i64 ((rd_T24 l0 x5_1).f2), .int .u64 ((rd_T24 l0 x5_1).f3), .string ((rd_T24 l0 x5_1).f4)] 24 (0, 0)) (by refine bT ?_; refine bU (cs := #[.int .i64 ((rd_T24 l0 x5_1).f0), .int .i64 ((rd_T24 l0 x5_1).f1), .int .i64 ((rd_T24 l0 x5_1).f2), .int .u64 ((rd_T24 l0 x5_1).f3), .string (⟨#[]⟩ : ByteArray)]) ?_ 4 _ rfl; refine bT ?_; refine bU (cs := #[.int .i64 ((rd_T24 l0 x5_1).f0), .int .i64 ((rd_T24 l0 x5_1).f1), .int .i64 ((rd_T24 l0 x5_1).f2), .int .u64 0, .string (⟨#[]⟩ : ByteArray)]) ?_ 3 _ rfl; refine bT ?_; refine bU (cs := #[.int .i64 ((rd_T24 l0 x5_1).f0), .int .i64 ((rd_T24 l0 x5_1).f1), .int .i64 0, .int .u64 0, .string (⟨#[]⟩ : ByteArray)]) ?_ 2 _ rfl; refine bT ?_; refine bU (cs := #[.int .i64 ((rd_T24 l0 x5_1).f0), .int .i64 0, .int .i64 0, .int .u64 0, .string (⟨#[]⟩ : ByteArray)]) ?_ 1 _ rfl; refine bT ?_; refine bU (cs := #[.int .i64 0, .int .i64 0, .int .i64 0, .int .u64 0, .string (⟨#[]⟩ : ByteArray)]) ?_ 0 _ rfl; exact bT BK211.out) hb); have n1_ := Ax.mk (bP bA hb); have n2_ := Ax.mk (hbox); have n3_ := Ax.mk ((ge_new hg : w.heap.size ≤ gb213)); have n4_ := n3_; have n5_ := Ax.mk ((by rw [hg]; exact Nat.ne_of_lt (bL (g := gb211) (o := .cells #[.int .i64 ((rd_T24 l0 x5_1).f0), .int .i64 ((rd_T24 l0 x5_1).f1), .int .i64 ((rd_T24 l0 x5_1).f2), .int .u64 ((rd_T24 l0 x5_1).f3), .string ((rd_T24 l0 x5_1).f4)] 24 (0, 0)) (by refine bT ?_; refine bU (cs := #[.int .i64 ((rd_T24 l0 x5_1).f0), .int .i64 ((rd_T24 l0 x5_1).f1), .int .i64 ((rd_T24 l0 x5_1).f2), .int .u64 ((rd_T24 l0 x5_1).f3), .string (⟨#[]⟩ : ByteArray)]) ?_ 4 _ rfl; refine bT ?_; refine bU (cs := #[.int .i64 ((rd_T24 l0 x5_1).f0), .int .i64 ((rd_T24 l0 x5_1).f1), .int .i64 ((rd_T24 l0 x5_1).f2), .int .u64 0, .string (⟨#[]⟩ : ByteArray)]) ?_ 3 _ rfl; refine bT ?_; refine bU (cs := #[.int .i64 ((rd_T24 l0 x5_1).f0), .int .i64 ((rd_T24 l0 x5_1).f1), .int .i64 0, .int .u64 0, .string (⟨#[]⟩ : ByteArray)]) ?_ 2 _ rfl; refine bT ?_; refine bU (cs := #[.int .i64 ((rd_T24 l0 x5_1).f0), .int .i64 0, .int .i64 0, .int .u64 0, .string (⟨#[]⟩ : ByteArray)]) ?_ 1 _ rfl; refine bT ?_; refine bU (cs := #[.int .i64 0, .int .i64 0, .int .i64 0, .int .u64 0, .string (⟨#[]⟩ : ByteArray)]) ?_ 0 _ rfl; exact bT BK211.out)) : gb211 ≠ gb213)); have n6_ := Ax.mk ((by rw [hg]; exact Nat.ne_of_gt (bL (g := gb211) (o := .cells #[.int .i64 ((rd_T24 l0 x5_1).f0), .int .i64 ((rd_T24 l0 x5_1).f1), .int .i64 ((rd_T24 l0 x5_1).f2), .int .u64 ((rd_T24 l0 x5_1).f3), .string ((rd_T24 l0 x5_1).f4)] 24 (0, 0)) (by refine bT ?_; refine bU (cs := #[.int .i64 ((rd_T24 l0 x5_1).f0), .int .i64 ((rd_T24 l0 x5_1).f1), .int .i64 ((rd_T24 l0 x5_1).f2), .int .u64 ((rd_T24 l0 x5_1).f3), .string (⟨#[]⟩ : ByteArray)]) ?_ 4 _ rfl; refine bT ?_; refine bU (cs := #[.int .i64 ((rd_T24 l0 x5_1).f0), .int .i64 ((rd_T24 l0 x5_1).f1), .int .i64 ((rd_T24 l0 x5_1).f2), .int .u64 0, .string (⟨#[]⟩ : ByteArray)]) ?_ 3 _ rfl; refine bT ?_; refine bU (cs := #[.int .i64 ((rd_T24 l0 x5_1).f0), .int .i64 ((rd_T24 l0 x5_1).f1), .int .i64 0, .int .u64 0, .string (⟨#[]⟩ : ByteArray)]) ?_ 2 _ rfl; refine bT ?_; refine bU (cs := #[.int .i64 ((rd_T24 l0 x5_1).f0), .int .i64 0, .int .i64 0, .int .u64 0, .string (⟨#[]⟩ : ByteArray)]) ?_ 1 _ rfl; refine bT ?_; refine bU (cs := #[.int .i64 0, .int .i64 0, .int .i64 0, .int .u64 0, .string (⟨#[]⟩ : ByteArray)]) ?_ 0 _ rfl; exact bT BK211.out)) : gb213 ≠ gb211)); clear BK211; clear HB; have BK211 := n0_; have HB := n1_; have BK213 := n2_; have GW213 := n3_; have GE213 := n4_; have NB211_213 := n5_; have NB213_211 := n6_; clear n0_ n1_ n2_ n3_ n4_ n5_ n6_; clear hb hbox hg; have hnb15 := NB213_211.out; have hnc15 := NB211_213.out; have hcz16_0 : w14.cell? ⟨gb213, 0, none⟩ = some (.int .i64 0) := (bC BK213.out 0).trans rfl; have hcz16_1 : w14.cell? ⟨gb213, 1, none⟩ = some (.int .i64 0) := (bC BK213.out 1).trans rfl; have hcz16_2 : w14.cell? ⟨gb213, 2, none⟩ = some (.int .i64 0) := (bC BK213.out 2).trans rfl; have hcz16_3 : w14.cell? ⟨gb213, 3, none⟩ = some (.int .u64 0) := (bC BK213.out 3).trans rfl; have hcz16_4 : w14.cell? ⟨gb213, 4, none⟩ = some (.string (⟨#[]⟩ : ByteArray)) := (bC BK213.out 4).trans rfl; have hfz16_0 := bF BK213.out 0; have hfz16_1 := bF BK213.out 1; have hfz16_2 := bF BK213.out 2; have hfz16_3 := bF BK213.out 3; have hfz16_4 := bF BK213.out 4; have hcz17_0 : w14.cell? ⟨gb211, 0, none⟩ = some (.int .i64 ((rd_T24 l0 x5_1).f0)) := (bC BK211.out 0).trans rfl; have hcz17_1 : w14.cell? ⟨gb211, 1, none⟩ = some (.int .i64 ((rd_T24 l0 x5_1).f1)) := (bC BK211.out 1).trans rfl; have hcz17_2 : w14.cell? ⟨gb211, 2, none⟩ = some (.int .i64 ((rd_T24 l0 x5_1).f2)) := (bC BK211.out 2).trans rfl; have hcz17_3 : w14.cell? ⟨gb211, 3, none⟩ = some (.int .u64 ((rd_T24 l0 x5_1).f3)) := (bC BK211.out 3).trans rfl; have hcz17_4 : w14.cell? ⟨gb211, 4, none⟩ = some (.string ((rd_T24 l0 x5_1).f4)) := (bC BK211.out 4).trans rfl; have hfz17_0 := bF BK211.out 0; have hfz17_1 := bF BK211.out 1; have hfz17_2 := bF BK211.out 2; have hfz17_3 := bF BK211.out 3; have hfz17_4 := bF BK211.out 4))
            go_roundg k1
            case measure => have := HK1.out; omega
            case rel => exact ⟨(wrap64 (x5_1 + 1)), (by first | rfl | (simp; done) | (simp [*]; done)), H', ⟨by have := HK1.out; omega⟩, ⟨bA⟩⟩
           ·rw [if_neg c11] at H
            exact absurd H (by simp)
          ·rw [if_neg c10] at H
           exact absurd H (by simp)
         ·rw [if_neg c9] at H
          exact absurd H (by simp)
        ·rw [if_neg c8] at H
         exact absurd H (by simp)
       ·rw [if_neg c7] at H
        exact absurd H (by simp)
      ·rw [if_neg c6] at H
       exact absurd H (by simp)
     ·rw [if_neg c5] at H
      exact absurd H (by simp)
    ·rw [if_neg c4] at H
     have c4b0 : decide (x5_1 < (l0.length : Int)) = false := decide_eq_false c4
     clear c4
     obtain rfl := Option.some.inj H
     go_wp2
     go_ret
     exact ⟨by first | rfl | (simp [errW_none, errW_some] <;> rfl) | (simp [*, errW_none, errW_some] <;> rfl), bA⟩
 ·rw [if_neg c3] at H
  exact absurd H (by simp)
mutual
def l13_same.j0 : Nat → Bool → Int → List (S44) → ByteArray → Int → List (S46) → ByteArray → Option (Bool)
 | 0, _, _, _, _, _, _, _ => none
 | k + 1, x26, x215000, x215001, x215002, x216000, x216001, x216002 => if x26 = true then (none) else (l13_same.l0 k 0 x215000 x215001 x215002 x216000 x216001 x216002)
def l13_same.l0 : Nat → Int → Int → List (S44) → ByteArray → Int → List (S46) → ByteArray → Option (Bool)
 | 0, _, _, _, _, _, _, _ => none
 | k + 1, x5, x215000, x215001, x215002, x216000, x216001, x216002 => if x5 < (x215001.length : Int) then (if 0 ≤ x5 then (if x5 < (x216001.length : Int) then (if ((rd_T44 x215001 x5).f0) = ((rd_T46 x216001 x5).f0) then ((l13_sameSteps.f k ((rd_T44 x215001 x5).f1) ((rd_T46 x216001 x5).f1)).bind fun t220 => (if t220 = true then (l13_same.l0 k (wrap64 (x5 + 1)) x215000 x215001 x215002 x216000 x216001 x216002) else (none))) else (none)) else (none)) else (none)) else (some true)
end
def l13_same.f (k : Nat) (a0_0 : Int) (l0_1 : List (S44)) (a0_2 : ByteArray) (a1_0 : Int) (l1_1 : List (S46)) (a1_2 : ByteArray) : Option (Bool) := if a0_0 = a1_0 then (if a0_2.toList = a1_2.toList then (l13_same.j0 k ((l0_1.length : Int) != (l1_1.length : Int)) a0_0 l0_1 a0_2 a1_0 l1_1 a1_2) else (none)) else (none)
theorem l13_same.mono_l : ∀ k, (∀ y0 y1 y2 y3 y4 y5 y6, LeO (l13_same.j0 k y0 y1 y2 y3 y4 y5 y6) (l13_same.j0 (k + 1) y0 y1 y2 y3 y4 y5 y6)) ∧ (∀ y0 y1 y2 y3 y4 y5 y6, LeO (l13_same.l0 k y0 y1 y2 y3 y4 y5 y6) (l13_same.l0 (k + 1) y0 y1 y2 y3 y4 y5 y6))
 | 0 => ⟨fun _ _ _ _ _ _ _ r h => by simp [l13_same.j0] at h, fun _ _ _ _ _ _ _ r h => by simp [l13_same.l0] at h⟩
 | k + 1 => by
  obtain ⟨ih0, ih1⟩ := l13_same.mono_l k
  refine ⟨?_, ?_⟩
  ·intro y0 y1 y2 y3 y4 y5 y6
   unfold l13_same.j0
   repeat' first
   | (with_reducible exact ih0 _ _ _ _ _ _ _)
   | (with_reducible exact ih1 _ _ _ _ _ _ _)
   | (with_reducible exact l13_sameSteps.mono _ _ _)
   | (with_reducible exact LeO.refl _)
   | (with_reducible exact LeO.none _)
   | (with_reducible refine LeO.ite ?_ ?_)
   | (with_reducible refine LeO.bind ?_ (fun _ => ?_))
   | exact ih0 _ _ _ _ _ _ _
   | exact ih1 _ _ _ _ _ _ _
   | exact l13_sameSteps.mono _ _ _
   | exact LeO.none _
   | refine LeO.ite ?_ ?_
   | refine LeO.bind ?_ (fun _ => ?_)
  ·intro y0 y1 y2 y3 y4 y5 y6
   unfold l13_same.l0
   repeat' first
   | (with_reducible exact ih0 _ _ _ _ _ _ _)
   | (with_reducible exact ih1 _ _ _ _ _ _ _)
   | (with_reducible exact l13_sameSteps.mono _ _ _)
   | (with_reducible exact LeO.refl _)
   | (with_reducible exact LeO.none _)
   | (with_reducible refine LeO.ite ?_ ?_)
   | (with_reducible refine LeO.bind ?_ (fun _ => ?_))
   | exact ih0 _ _ _ _ _ _ _
   | exact ih1 _ _ _ _ _ _ _
   | exact l13_sameSteps.mono _ _ _
   | exact LeO.none _
   | refine LeO.ite ?_ ?_
   | refine LeO.bind ?_ (fun _ => ?_)
theorem l13_same.mono : ∀ a0 a1 a2 a3 a4 a5 k, LeO (l13_same.f k a0 a1 a2 a3 a4 a5) (l13_same.f (k + 1) a0 a1 a2 a3 a4 a5) := by
 intro a0 a1 a2 a3 a4 a5 k
 obtain ⟨ih0, ih1⟩ := l13_same.mono_l k
 unfold l13_same.f
 repeat' first
   | (with_reducible exact ih0 _ _ _ _ _ _ _)
   | (with_reducible exact ih1 _ _ _ _ _ _ _)
   | (with_reducible exact l13_sameSteps.mono _ _ _)
   | (with_reducible exact LeO.refl _)
   | (with_reducible exact LeO.none _)
   | (with_reducible refine LeO.ite ?_ ?_)
   | (with_reducible refine LeO.bind ?_ (fun _ => ?_))
   | exact ih0 _ _ _ _ _ _ _
   | exact ih1 _ _ _ _ _ _ _
   | exact l13_sameSteps.mono _ _ _
   | exact LeO.none _
   | refine LeO.ite ?_ ?_
   | refine LeO.bind ?_ (fun _ => ?_)
def l13_same.T6 : Bool × List (List Nat × List Nat) := (true, [([], []), ([0], [0]), ([], []), ([1, 2], [1, 2]), ([3], [3]), ([4], [4]), ([], []), ([6], [6]), ([], []), ([7, 8], [7, 8]), ([9], [9]), ([10], [10]), ([5, 11], [5, 11]), ([12], [12]), ([13], [13]), ([14, 13], [13, 14]), ([13], [13]), ([15, 16, 13], [13, 15, 16]), ([17, 13], [13, 17]), ([18, 13], [13, 18]), ([13], [13]), ([20, 13], [13, 20]), ([13], [13]), ([21, 22, 13], [13, 21, 22]), ([23, 13], [13, 23]), ([24, 13], [13, 24]), ([19, 25, 13, 13], [13, 19, 25]), ([26, 13], [13, 26]), ([13, 27], [13, 27])])
def l13_same.B6 : List Nat := [0, 1, 0, 7, 15, 31, 0, 64, 0, 448, 960, 1984, 4095, 8191, 16383, 32767, 16383, 131071, 262143, 524287, 16383, 1064959, 16383, 7356415, 15745023, 32522239, 67108863, 134217727, 268435455]
mutual
def l13_built.j0 : Nat → List (List (S24)) → Bool → Int → List (S44) → ByteArray → Int → List (S46) → ByteArray → Option (Int × (List (S44)) × ByteArray × Int × (List (S46)) × ByteArray × Bool)
 | 0, _, _, _, _, _, _, _, _ => none
 | k + 1, x2, x39, x288000, x288001, x288002, x298000, x298001, x298002 => if x39 = true then (none) else (l13_built.l0 k x2 0 x288000 x288001 x288002 x298000 x298001 x298002)
def l13_built.l0 : Nat → List (List (S24)) → Int → Int → List (S44) → ByteArray → Int → List (S46) → ByteArray → Option (Int × (List (S44)) × ByteArray × Int × (List (S46)) × ByteArray × Bool)
 | 0, _, _, _, _, _, _, _, _ => none
 | k + 1, x2, x13, x288000, x288001, x288002, x298000, x298001, x298002 => if x13 < (x2.length : Int) then (if 0 ≤ x13 then ((journal_Add.f k x288000 x288001 x288002 (rd_L4 x2 x13)).bind fun bt300 => ((l13_steps.f k (rd_L4 x2 x13)).bind fun t308 => ((r13_Add.f k x298000 x298001 x298002 t308).bind fun bt311 => (if bt300.2.2.2 = bt311.2.2.2 then ((l13_same.f k bt300.1 bt300.2.1 bt300.2.2.1 bt311.1 bt311.2.1 bt311.2.2.1).bind fun t318 => (l13_built.j2 k x2 x13 bt300.2.2.2 (!t318) x288000 x288001 x288002 x298000 x298001 x298002 bt300.1 bt300.2.1 bt300.2.2.1 bt311.1 bt311.2.1 bt311.2.2.1)) else (l13_built.j2 k x2 x13 bt300.2.2.2 true x288000 x288001 x288002 x298000 x298001 x298002 bt300.1 bt300.2.1 bt300.2.2.1 bt311.1 bt311.2.1 bt311.2.2.1))))) else (none)) else (some (x288000, x288001, x288002, x298000, x298001, x298002, true))
def l13_built.j2 : Nat → List (List (S24)) → Int → Int → Bool → Int → List (S44) → ByteArray → Int → List (S46) → ByteArray → Int → List (S44) → ByteArray → Int → List (S46) → ByteArray → Option (Int × (List (S44)) × ByteArray × Int × (List (S46)) × ByteArray × Bool)
 | 0, _, _, _, _, _, _, _, _, _, _, _, _, _, _, _, _ => none
 | k + 1, x2, x13, x15, x75, x288000, x288001, x288002, x298000, x298001, x298002, x307000, x307001, x307002, x318000, x318001, x318002 => if x75 = true then (none) else (if x15 = 0 then (l13_built.l0 k x2 (wrap64 (x13 + 1)) x307000 x307001 x307002 x318000 x318001 x318002) else (l13_built.l0 k x2 (wrap64 (x13 + 1)) x288000 x288001 x288002 x298000 x298001 x298002))
end
def l13_built.f (k : Nat) (a0 : Int) (l1 : List (S24)) (l2 : List (List (S24))) : Option (Int × (List (S44)) × ByteArray × Int × (List (S46)) × ByteArray × Bool) := (journal_New.f k a0 l1).bind fun bt281 => ((l13_steps.f k l1).bind fun t288 => ((r13_New.f k a0 t288).bind fun bt291 => (if bt281.2.2.2 = bt291.2.2.2 then ((l13_same.f k bt281.1 bt281.2.1 bt281.2.2.1 bt291.1 bt291.2.1 bt291.2.2.1).bind fun t298 => (l13_built.j0 k l2 (!t298) bt281.1 bt281.2.1 bt281.2.2.1 bt291.1 bt291.2.1 bt291.2.2.1)) else (l13_built.j0 k l2 true bt281.1 bt281.2.1 bt281.2.2.1 bt291.1 bt291.2.1 bt291.2.2.1))))
theorem l13_built.mono_l : ∀ k, (∀ y0 y1 y2 y3 y4 y5 y6 y7, LeO (l13_built.j0 k y0 y1 y2 y3 y4 y5 y6 y7) (l13_built.j0 (k + 1) y0 y1 y2 y3 y4 y5 y6 y7)) ∧ (∀ y0 y1 y2 y3 y4 y5 y6 y7, LeO (l13_built.l0 k y0 y1 y2 y3 y4 y5 y6 y7) (l13_built.l0 (k + 1) y0 y1 y2 y3 y4 y5 y6 y7)) ∧ (∀ y0 y1 y2 y3 y4 y5 y6 y7 y8 y9 y10 y11 y12 y13 y14 y15, LeO (l13_built.j2 k y0 y1 y2 y3 y4 y5 y6 y7 y8 y9 y10 y11 y12 y13 y14 y15) (l13_built.j2 (k + 1) y0 y1 y2 y3 y4 y5 y6 y7 y8 y9 y10 y11 y12 y13 y14 y15))
 | 0 => ⟨fun _ _ _ _ _ _ _ _ r h => by simp [l13_built.j0] at h, fun _ _ _ _ _ _ _ _ r h => by simp [l13_built.l0] at h, fun _ _ _ _ _ _ _ _ _ _ _ _ _ _ _ _ r h => by simp [l13_built.j2] at h⟩
 | k + 1 => by
  obtain ⟨ih0, ih1, ih2⟩ := l13_built.mono_l k
  refine ⟨?_, ?_, ?_⟩
  ·intro y0 y1 y2 y3 y4 y5 y6 y7
   unfold l13_built.j0
   repeat' first
   | (with_reducible exact ih0 _ _ _ _ _ _ _ _)
   | (with_reducible exact ih1 _ _ _ _ _ _ _ _)
   | (with_reducible exact ih2 _ _ _ _ _ _ _ _ _ _ _ _ _ _ _ _)
   | (with_reducible exact journal_Add.mono _ _ _ _ _)
   | (with_reducible exact journal_New.mono _ _ _)
   | (with_reducible exact l13_same.mono _ _ _ _ _ _ _)
   | (with_reducible exact l13_steps.mono _ _)
   | (with_reducible exact r13_Add.mono _ _ _ _ _)
   | (with_reducible exact r13_New.mono _ _ _)
   | (with_reducible exact LeO.refl _)
   | (with_reducible exact LeO.none _)
   | (with_reducible refine LeO.ite ?_ ?_)
   | (with_reducible refine LeO.bind ?_ (fun _ => ?_))
   | exact ih0 _ _ _ _ _ _ _ _
   | exact ih1 _ _ _ _ _ _ _ _
   | exact ih2 _ _ _ _ _ _ _ _ _ _ _ _ _ _ _ _
   | exact journal_Add.mono _ _ _ _ _
   | exact journal_New.mono _ _ _
   | exact l13_same.mono _ _ _ _ _ _ _
   | exact l13_steps.mono _ _
   | exact r13_Add.mono _ _ _ _ _
   | exact r13_New.mono _ _ _
   | exact LeO.none _
   | refine LeO.ite ?_ ?_
   | refine LeO.bind ?_ (fun _ => ?_)
  ·intro y0 y1 y2 y3 y4 y5 y6 y7
   unfold l13_built.l0
   repeat' first
   | (with_reducible exact ih0 _ _ _ _ _ _ _ _)
   | (with_reducible exact ih1 _ _ _ _ _ _ _ _)
   | (with_reducible exact ih2 _ _ _ _ _ _ _ _ _ _ _ _ _ _ _ _)
   | (with_reducible exact journal_Add.mono _ _ _ _ _)
   | (with_reducible exact journal_New.mono _ _ _)
   | (with_reducible exact l13_same.mono _ _ _ _ _ _ _)
   | (with_reducible exact l13_steps.mono _ _)
   | (with_reducible exact r13_Add.mono _ _ _ _ _)
   | (with_reducible exact r13_New.mono _ _ _)
   | (with_reducible exact LeO.refl _)
   | (with_reducible exact LeO.none _)
   | (with_reducible refine LeO.ite ?_ ?_)
   | (with_reducible refine LeO.bind ?_ (fun _ => ?_))
   | exact ih0 _ _ _ _ _ _ _ _
   | exact ih1 _ _ _ _ _ _ _ _
   | exact ih2 _ _ _ _ _ _ _ _ _ _ _ _ _ _ _ _
   | exact journal_Add.mono _ _ _ _ _
   | exact journal_New.mono _ _ _
   | exact l13_same.mono _ _ _ _ _ _ _
   | exact l13_steps.mono _ _
   | exact r13_Add.mono _ _ _ _ _
   | exact r13_New.mono _ _ _
   | exact LeO.none _
   | refine LeO.ite ?_ ?_
   | refine LeO.bind ?_ (fun _ => ?_)
  ·intro y0 y1 y2 y3 y4 y5 y6 y7 y8 y9 y10 y11 y12 y13 y14 y15
   unfold l13_built.j2
   repeat' first
   | (with_reducible exact ih0 _ _ _ _ _ _ _ _)
   | (with_reducible exact ih1 _ _ _ _ _ _ _ _)
   | (with_reducible exact ih2 _ _ _ _ _ _ _ _ _ _ _ _ _ _ _ _)
   | (with_reducible exact journal_Add.mono _ _ _ _ _)
   | (with_reducible exact journal_New.mono _ _ _)
   | (with_reducible exact l13_same.mono _ _ _ _ _ _ _)
   | (with_reducible exact l13_steps.mono _ _)
   | (with_reducible exact r13_Add.mono _ _ _ _ _)
   | (with_reducible exact r13_New.mono _ _ _)
   | (with_reducible exact LeO.refl _)
   | (with_reducible exact LeO.none _)
   | (with_reducible refine LeO.ite ?_ ?_)
   | (with_reducible refine LeO.bind ?_ (fun _ => ?_))
   | exact ih0 _ _ _ _ _ _ _ _
   | exact ih1 _ _ _ _ _ _ _ _
   | exact ih2 _ _ _ _ _ _ _ _ _ _ _ _ _ _ _ _
   | exact journal_Add.mono _ _ _ _ _
   | exact journal_New.mono _ _ _
   | exact l13_same.mono _ _ _ _ _ _ _
   | exact l13_steps.mono _ _
   | exact r13_Add.mono _ _ _ _ _
   | exact r13_New.mono _ _ _
   | exact LeO.none _
   | refine LeO.ite ?_ ?_
   | refine LeO.bind ?_ (fun _ => ?_)
theorem l13_built.mono : ∀ a0 a1 a2 k, LeO (l13_built.f k a0 a1 a2) (l13_built.f (k + 1) a0 a1 a2) := by
 intro a0 a1 a2 k
 obtain ⟨ih0, ih1, ih2⟩ := l13_built.mono_l k
 unfold l13_built.f
 repeat' first
   | (with_reducible exact ih0 _ _ _ _ _ _ _ _)
   | (with_reducible exact ih1 _ _ _ _ _ _ _ _)
   | (with_reducible exact ih2 _ _ _ _ _ _ _ _ _ _ _ _ _ _ _ _)
   | (with_reducible exact journal_Add.mono _ _ _ _ _)
   | (with_reducible exact journal_New.mono _ _ _)
   | (with_reducible exact l13_same.mono _ _ _ _ _ _ _)
   | (with_reducible exact l13_steps.mono _ _)
   | (with_reducible exact r13_Add.mono _ _ _ _ _)
   | (with_reducible exact r13_New.mono _ _ _)
   | (with_reducible exact LeO.refl _)
   | (with_reducible exact LeO.none _)
   | (with_reducible refine LeO.ite ?_ ?_)
   | (with_reducible refine LeO.bind ?_ (fun _ => ?_))
   | exact ih0 _ _ _ _ _ _ _ _
   | exact ih1 _ _ _ _ _ _ _ _
   | exact ih2 _ _ _ _ _ _ _ _ _ _ _ _ _ _ _ _
   | exact journal_Add.mono _ _ _ _ _
   | exact journal_New.mono _ _ _
   | exact l13_same.mono _ _ _ _ _ _ _
   | exact l13_steps.mono _ _
   | exact r13_Add.mono _ _ _ _ _
   | exact r13_New.mono _ _ _
   | exact LeO.none _
   | refine LeO.ite ?_ ?_
   | refine LeO.bind ?_ (fun _ => ?_)
def l13_built.T8 : Bool × List (List Nat × List Nat) := (true, [([], []), ([], []), ([], []), ([1, 2], [1, 2]), ([3], [3]), ([0, 4], [0, 4]), ([5], [5]), ([6], [6]), ([6], [6]), ([], []), ([9, 7, 5, 0, 1, 2, 3, 4, 5, 6, 7, 9], [7, 9]), ([8, 10, 0, 1, 2, 3, 4, 5, 6, 7, 8, 9, 10], [8])])
def l13_built.B8 : List Nat := [0, 0, 0, 6, 14, 31, 63, 127, 127, 0, 767, 2047]
def l13_built.T9 : Bool × List (List Nat × List Nat) := (true, [([], []), ([], []), ([], []), ([1, 2], [1, 2]), ([3], [3]), ([4], [4]), ([0, 5, 5], [0, 5]), ([6], [6]), ([7], [7]), ([7], [7]), ([], []), ([10, 8, 6, 0, 1, 2, 3, 4, 5, 6, 7, 8, 10], [8, 10]), ([9, 11, 0, 1, 2, 3, 4, 5, 6, 7, 8, 9, 10, 11], [9])])
def l13_built.B9 : List Nat := [0, 0, 0, 6, 14, 30, 63, 127, 255, 255, 0, 1535, 4095]
def l13_shortSteps.l0 : Nat → List (S24) → Int → Option (Bool)
 | 0, _, _ => none
 | k + 1, x0, x3 => if x3 < (x0.length : Int) then (if 0 ≤ x3 then (if (((rd_T24 x0 x3).f4).size : Int) > 200 then (some false) else (l13_shortSteps.l0 k x0 (wrap64 (x3 + 1)))) else (none)) else (some true)
def l13_shortSteps.f (k : Nat) (l0 : List (S24)) : Option (Bool) := if (l0.length : Int) > 60 then (some false) else (l13_shortSteps.l0 k l0 0)
theorem l13_shortSteps.mono_l : ∀ k, (∀ y0 y1, LeO (l13_shortSteps.l0 k y0 y1) (l13_shortSteps.l0 (k + 1) y0 y1))
 | 0 => fun _ _ r h => by simp [l13_shortSteps.l0] at h
 | k + 1 => by
  have ih0 := l13_shortSteps.mono_l k
  ·intro y0 y1
   unfold l13_shortSteps.l0
   repeat' first
   | (with_reducible exact ih0 _ _)
   | (with_reducible exact LeO.refl _)
   | (with_reducible exact LeO.none _)
   | (with_reducible refine LeO.ite ?_ ?_)
   | (with_reducible refine LeO.bind ?_ (fun _ => ?_))
   | exact ih0 _ _
   | exact LeO.none _
   | refine LeO.ite ?_ ?_
   | refine LeO.bind ?_ (fun _ => ?_)
theorem l13_shortSteps.mono : ∀ a0 k, LeO (l13_shortSteps.f k a0) (l13_shortSteps.f (k + 1) a0) := by
 intro a0 k
 have ih0 := l13_shortSteps.mono_l k
 unfold l13_shortSteps.f
 repeat' first
   | (with_reducible exact ih0 _ _)
   | (with_reducible exact LeO.refl _)
   | (with_reducible exact LeO.none _)
   | (with_reducible refine LeO.ite ?_ ?_)
   | (with_reducible refine LeO.bind ?_ (fun _ => ?_))
   | exact ih0 _ _
   | exact LeO.none _
   | refine LeO.ite ?_ ?_
   | refine LeO.bind ?_ (fun _ => ?_)
set_option maxHeartbeats 8000000 in
set_option maxRecDepth 100000 in
theorem l13_shortSteps.calls (k : Nat) (A0 : Option Addr) (c0 : Nat) (l0 : List (S24)) (r : Bool) (w : World) (hr0 : Kd.C k24 w A0 l0.length l0) (hc0 : l0.length ≤ c0) (h : l13_shortSteps.f k l0 = some r) :
  Calls Tryd.prog 32 #[.slice A0 l0.length c0] w fun e w' => e = .returned (.bool r) ∧ Drawn0 w w' := by
 have HR0 := Ax.mk hr0
 have HC0 := Ax.mk hc0
 clear hr0 hc0
 have H : (if (l0.length : Int) > 60 then (some false) else (l13_shortSteps.l0 k l0 0)) = some r := h
 clear h
 by_cases c2 : (l0.length : Int) > 60
 ·rw [if_pos c2] at H
  have c2b0 : decide (60 < (l0.length : Int)) = true := decide_eq_true c2
  have c2b1 : decide (60 < l0.length) = true := decide_eq_true (by omega)
  clear c2
  obtain rfl := Option.some.inj H
  go_enter Tryd.func32, Tryd.ntmps32
  go_wp2
  go_ret
  exact ⟨by first | rfl | (simp; done) | (simp [*]; done), by repeat (first | exact Drawn0.refl _ | apply Drawn0.step)⟩
 ·rw [if_neg c2] at H
  have c2b0 : decide (60 < (l0.length : Int)) = false := decide_eq_false c2
  have c2b1 : decide (60 < l0.length) = false := decide_eq_false (by omega)
  clear c2
  have H' := Ax.mk H
  clear H
  go_enter Tryd.func32, Tryd.ntmps32
  go_wp2
  go_loopg [3] k (fun kq v3 w' => ∃ (x3_1 : Int), v3 = .int .i64 x3_1 ∧ Ax (l13_shortSteps.l0 kq l0 x3_1 = some r) ∧ Ax (kq ≤ k) ∧ Drawn0 w w')
  case atStart => exact ⟨(0), (by first | rfl | (simp; done) | (simp [*]; done)), H', ⟨Nat.le_refl _⟩, by repeat (first | exact Drawn0.refl _ | apply Drawn0.step)⟩
  case round =>
   clear H'
   try clear c2
   try clear c2b0
   try clear c2b1
   try clear p2
   obtain ⟨x3_1, rfl, HA, HK1, ⟨m1, rfl⟩⟩ := hrel
   cases gk with
   | zero => exact absurd HA.out (by simp [l13_shortSteps.l0])
   | succ k1 =>
    have H := HA.out
    clear HA
    simp only [l13_shortSteps.l0] at H
    by_cases c3 : x3_1 < (l0.length : Int)
    ·rw [if_pos c3] at H
     have c3b0 : decide (x3_1 < (l0.length : Int)) = true := decide_eq_true c3
     clear c3
     by_cases c4 : 0 ≤ x3_1
     ·rw [if_pos c4] at H
      have c4b0 : decide (0 ≤ x3_1) = true := decide_eq_true c4
      clear c4
      by_cases c5 : (((rd_T24 l0 x3_1).f4).size : Int) > 200
      ·rw [if_pos c5] at H
       have c5b0 : decide (200 < (((rd_T24 l0 x3_1).f4).size : Int)) = true := decide_eq_true c5
       have c5b1 : decide (200 < ((rd_T24 l0 x3_1).f4).size) = true := decide_eq_true (by omega)
       clear c5
       obtain rfl := Option.some.inj H
       have p201 : 0 ≤ (x3_1 : Int) := of_decide_eq_true (by first | (with_reducible assumption) | assumption)
       have q201 : x3_1 < (l0.length : Int) := of_decide_eq_true (by first | (with_reducible assumption) | assumption)
       obtain ⟨ad201, e201, hx201_0, hx201_1, hx201_2, hx201_3, hx201_4⟩ := at_T24 HR0.out x3_1 p201 q201
       cases e201
       replace p201 := eq_true p201
       replace q201 := eq_true q201
       go_wp2
       go_ret
       exact ⟨by first | rfl | (simp; done) | (simp [*]; done), by repeat (first | exact Drawn0.refl _ | apply Drawn0.step)⟩
      ·rw [if_neg c5] at H
       have c5b0 : decide (200 < (((rd_T24 l0 x3_1).f4).size : Int)) = false := decide_eq_false c5
       have c5b1 : decide (200 < ((rd_T24 l0 x3_1).f4).size) = false := decide_eq_false (by omega)
       clear c5
       have H' := Ax.mk H
       clear H
       have p201 : 0 ≤ (x3_1 : Int) := of_decide_eq_true (by first | (with_reducible assumption) | assumption)
       have q201 : x3_1 < (l0.length : Int) := of_decide_eq_true (by first | (with_reducible assumption) | assumption)
       obtain ⟨ad201, e201, hx201_0, hx201_1, hx201_2, hx201_3, hx201_4⟩ := at_T24 HR0.out x3_1 p201 q201
       cases e201
       replace p201 := eq_true p201
       replace q201 := eq_true q201
       go_wp2
       go_roundg k1
       case measure => have := HK1.out; omega
       case rel => exact ⟨(wrap64 (x3_1 + 1)), (by first | rfl | (simp; done) | (simp [*]; done)), H', ⟨by have := HK1.out; omega⟩, by repeat (first | exact Drawn0.refl _ | apply Drawn0.step)⟩
     ·rw [if_neg c4] at H
      exact absurd H (by simp)
    ·rw [if_neg c3] at H
     have c3b0 : decide (x3_1 < (l0.length : Int)) = false := decide_eq_false c3
     clear c3
     obtain rfl := Option.some.inj H
     go_wp2
     go_ret
     exact ⟨by first | rfl | (simp; done) | (simp [*]; done), by repeat (first | exact Drawn0.refl _ | apply Drawn0.step)⟩
def l13_short.l0 : Nat → List (List (S24)) → Int → Option (Bool)
 | 0, _, _ => none
 | k + 1, x0, x3 => if x3 < (x0.length : Int) then (if 0 ≤ x3 then ((l13_shortSteps.f k (rd_L4 x0 x3)).bind fun t203 => (if t203 = true then (if ((rd_L4 x0 x3).length : Int) > 12 then (some false) else (l13_short.l0 k x0 (wrap64 (x3 + 1)))) else (some false))) else (none)) else (some true)
def l13_short.f (k : Nat) (l0 : List (List (S24))) : Option (Bool) := if (l0.length : Int) > 12 then (some false) else (l13_short.l0 k l0 0)
theorem l13_short.mono_l : ∀ k, (∀ y0 y1, LeO (l13_short.l0 k y0 y1) (l13_short.l0 (k + 1) y0 y1))
 | 0 => fun _ _ r h => by simp [l13_short.l0] at h
 | k + 1 => by
  have ih0 := l13_short.mono_l k
  ·intro y0 y1
   unfold l13_short.l0
   repeat' first
   | (with_reducible exact ih0 _ _)
   | (with_reducible exact l13_shortSteps.mono _ _)
   | (with_reducible exact LeO.refl _)
   | (with_reducible exact LeO.none _)
   | (with_reducible refine LeO.ite ?_ ?_)
   | (with_reducible refine LeO.bind ?_ (fun _ => ?_))
   | exact ih0 _ _
   | exact l13_shortSteps.mono _ _
   | exact LeO.none _
   | refine LeO.ite ?_ ?_
   | refine LeO.bind ?_ (fun _ => ?_)
theorem l13_short.mono : ∀ a0 k, LeO (l13_short.f k a0) (l13_short.f (k + 1) a0) := by
 intro a0 k
 have ih0 := l13_short.mono_l k
 unfold l13_short.f
 repeat' first
   | (with_reducible exact ih0 _ _)
   | (with_reducible exact l13_shortSteps.mono _ _)
   | (with_reducible exact LeO.refl _)
   | (with_reducible exact LeO.none _)
   | (with_reducible refine LeO.ite ?_ ?_)
   | (with_reducible refine LeO.bind ?_ (fun _ => ?_))
   | exact ih0 _ _
   | exact l13_shortSteps.mono _ _
   | exact LeO.none _
   | refine LeO.ite ?_ ?_
   | refine LeO.bind ?_ (fun _ => ?_)
set_option maxHeartbeats 8000000 in
set_option maxRecDepth 100000 in
theorem l13_short.calls (k : Nat) (A0 : Option Addr) (c0 : Nat) (l0 : List (List (S24))) (r : Bool) (w : World) (hr0 : Kd.C (Kd.slice 24 k24) w A0 l0.length l0) (hc0 : l0.length ≤ c0) (h : l13_short.f k l0 = some r) :
  Calls Tryd.prog 33 #[.slice A0 l0.length c0] w fun e w' => e = .returned (.bool r) ∧ Drawn0 w w' := by
 have HR0 := Ax.mk hr0
 have HC0 := Ax.mk hc0
 clear hr0 hc0
 have H : (if (l0.length : Int) > 12 then (some false) else (l13_short.l0 k l0 0)) = some r := h
 clear h
 by_cases c2 : (l0.length : Int) > 12
 ·rw [if_pos c2] at H
  have c2b0 : decide (12 < (l0.length : Int)) = true := decide_eq_true c2
  have c2b1 : decide (12 < l0.length) = true := decide_eq_true (by omega)
  clear c2
  obtain rfl := Option.some.inj H
  go_enter Tryd.func33, Tryd.ntmps33
  go_wp2
  go_ret
  exact ⟨by first | rfl | (simp; done) | (simp [*]; done), by repeat (first | exact Drawn0.refl _ | apply Drawn0.step)⟩
 ·rw [if_neg c2] at H
  have c2b0 : decide (12 < (l0.length : Int)) = false := decide_eq_false c2
  have c2b1 : decide (12 < l0.length) = false := decide_eq_false (by omega)
  clear c2
  have H' := Ax.mk H
  clear H
  go_enter Tryd.func33, Tryd.ntmps33
  go_wp2
  go_loopg [3] k (fun kq v3 w' => ∃ (x3_1 : Int), v3 = .int .i64 x3_1 ∧ Ax (l13_short.l0 kq l0 x3_1 = some r) ∧ Ax (kq ≤ k) ∧ Drawn0 w w')
  case atStart => exact ⟨(0), (by first | rfl | (simp; done) | (simp [*]; done)), H', ⟨Nat.le_refl _⟩, by repeat (first | exact Drawn0.refl _ | apply Drawn0.step)⟩
  case round =>
   clear H'
   try clear c2
   try clear c2b0
   try clear c2b1
   try clear p2
   obtain ⟨x3_1, rfl, HA, HK1, ⟨m1, rfl⟩⟩ := hrel
   cases gk with
   | zero => exact absurd HA.out (by simp [l13_short.l0])
   | succ k1 =>
    have H := HA.out
    clear HA
    simp only [l13_short.l0] at H
    by_cases c3 : x3_1 < (l0.length : Int)
    ·rw [if_pos c3] at H
     have c3b0 : decide (x3_1 < (l0.length : Int)) = true := decide_eq_true c3
     clear c3
     by_cases c4 : 0 ≤ x3_1
     ·rw [if_pos c4] at H
      have c4b0 : decide (0 ≤ x3_1) = true := decide_eq_true c4
      clear c4
      replace H := Option.bind_eq_some_iff.mp H
      obtain ⟨t203, A50, H⟩ := H
      replace H : (if t203 = true then (if ((rd_L4 l0 x3_1).length : Int) > 12 then (some false) else (l13_short.l0 k1 l0 (wrap64 (x3_1 + 1)))) else (some false)) = some r := H
      have A5 := Ax.mk A50
      clear A50
      by_cases c6 : t203 = true
      ·subst c6
       have H1 : (if ((rd_L4 l0 x3_1).length : Int) > 12 then (some false) else (l13_short.l0 k1 l0 (wrap64 (x3_1 + 1)))) = some r := by rw [if_pos rfl] at H; exact H
       clear H
       have H := H1
       clear H1
       by_cases c7 : ((rd_L4 l0 x3_1).length : Int) > 12
       ·rw [if_pos c7] at H
        have c7b0 : decide (12 < ((rd_L4 l0 x3_1).length : Int)) = true := decide_eq_true c7
        have c7b1 : decide (12 < (rd_L4 l0 x3_1).length) = true := decide_eq_true (by omega)
        clear c7
        obtain rfl := Option.some.inj H
        have p202 : 0 ≤ (x3_1 : Int) := of_decide_eq_true (by first | (with_reducible assumption) | assumption)
        have q202 : x3_1 < (l0.length : Int) := of_decide_eq_true (by first | (with_reducible assumption) | assumption)
        obtain ⟨ad202, A202_0, c202_0, e202, hx202_0, hl202_0, hi202_0⟩ := at_L4 HR0.out x3_1 p202 q202
        cases e202
        have HR202_0 := Ax.mk hi202_0
        have HC202_0 := Ax.mk hl202_0
        clear hi202_0 hl202_0
        replace p202 := eq_true p202
        replace q202 := eq_true q202
        go_wp2_with (first | ((with_reducible refine gate_callee (f := 32) rfl ?_); refine goesL_ (some 18) rfl rfl Tryd.func32 (by kernel_rfl) rfl #[.slice A202_0 (rd_L4 l0 x3_1).length c202_0] rfl (by (try simp only [List.map_toArray, List.map_cons, List.map_nil]); first | done | rfl | (simp only [List.length_drop, List.length_take]; rfl) | (rw [wrap_sum2 (by assumption)]; rfl)) ?_; (with_reducible refine (l13_shortSteps.calls k1 _ _ (rd_L4 l0 x3_1) true _ ?side1 ?side2 A5.out).mono ?_); (case side1 => repeat (first | exact HR202_0.out | (with_reducible refine Kd.C_alloc ?_ _) | (with_reducible refine Kd.C_drewN ?_ _) | (with_reducible refine Kd.C_drew ?_))); (case side2 => exact HC202_0.out); rintro e w' ⟨rfl, ⟨nd, rfl⟩⟩; refine ⟨_, rfl, ?_⟩; have p204 : 0 ≤ (x3_1 : Int) := of_decide_eq_true (by first | (with_reducible assumption) | assumption); have q204 : x3_1 < (l0.length : Int) := of_decide_eq_true (by first | (with_reducible assumption) | assumption); obtain ⟨ad204, A204_0, c204_0, e204, hx204_0, hl204_0, hi204_0⟩ := at_L4 HR0.out x3_1 p204 q204; obtain rfl : ad202 = ad204 := (by injection e204); have HR204_0 := Ax.mk hi204_0; have HC204_0 := Ax.mk hl204_0; clear hi204_0 hl204_0; replace p204 := eq_true p204; replace q204 := eq_true q204; have ea_ := Option.some.inj (hx202_0.symm.trans hx204_0); injection ea_ with ea_ en_ ec_; subst ea_; subst ec_; clear en_))
        go_ret
        exact ⟨by first | rfl | (simp; done) | (simp [*]; done), by repeat (first | exact Drawn0.refl _ | apply Drawn0.step)⟩
       ·rw [if_neg c7] at H
        have c7b0 : decide (12 < ((rd_L4 l0 x3_1).length : Int)) = false := decide_eq_false c7
        have c7b1 : decide (12 < (rd_L4 l0 x3_1).length) = false := decide_eq_false (by omega)
        clear c7
        have H' := Ax.mk H
        clear H
        have p202 : 0 ≤ (x3_1 : Int) := of_decide_eq_true (by first | (with_reducible assumption) | assumption)
        have q202 : x3_1 < (l0.length : Int) := of_decide_eq_true (by first | (with_reducible assumption) | assumption)
        obtain ⟨ad202, A202_0, c202_0, e202, hx202_0, hl202_0, hi202_0⟩ := at_L4 HR0.out x3_1 p202 q202
        cases e202
        have HR202_0 := Ax.mk hi202_0
        have HC202_0 := Ax.mk hl202_0
        clear hi202_0 hl202_0
        replace p202 := eq_true p202
        replace q202 := eq_true q202
        go_wp2_with (first | ((with_reducible refine gate_callee (f := 32) rfl ?_); refine goesL_ (some 18) rfl rfl Tryd.func32 (by kernel_rfl) rfl #[.slice A202_0 (rd_L4 l0 x3_1).length c202_0] rfl (by (try simp only [List.map_toArray, List.map_cons, List.map_nil]); first | done | rfl | (simp only [List.length_drop, List.length_take]; rfl) | (rw [wrap_sum2 (by assumption)]; rfl)) ?_; (with_reducible refine (l13_shortSteps.calls k1 _ _ (rd_L4 l0 x3_1) true _ ?side1 ?side2 A5.out).mono ?_); (case side1 => repeat (first | exact HR202_0.out | (with_reducible refine Kd.C_alloc ?_ _) | (with_reducible refine Kd.C_drewN ?_ _) | (with_reducible refine Kd.C_drew ?_))); (case side2 => exact HC202_0.out); rintro e w' ⟨rfl, ⟨nd, rfl⟩⟩; refine ⟨_, rfl, ?_⟩; have p204 : 0 ≤ (x3_1 : Int) := of_decide_eq_true (by first | (with_reducible assumption) | assumption); have q204 : x3_1 < (l0.length : Int) := of_decide_eq_true (by first | (with_reducible assumption) | assumption); obtain ⟨ad204, A204_0, c204_0, e204, hx204_0, hl204_0, hi204_0⟩ := at_L4 HR0.out x3_1 p204 q204; obtain rfl : ad202 = ad204 := (by injection e204); have HR204_0 := Ax.mk hi204_0; have HC204_0 := Ax.mk hl204_0; clear hi204_0 hl204_0; replace p204 := eq_true p204; replace q204 := eq_true q204; have ea_ := Option.some.inj (hx202_0.symm.trans hx204_0); injection ea_ with ea_ en_ ec_; subst ea_; subst ec_; clear en_))
        go_roundg k1
        case measure => have := HK1.out; omega
        case rel => exact ⟨(wrap64 (x3_1 + 1)), (by first | rfl | (simp; done) | (simp [*]; done)), H', ⟨by have := HK1.out; omega⟩, by repeat (first | exact Drawn0.refl _ | apply Drawn0.step)⟩
      ·replace c6 := Bool.eq_false_iff.mpr c6
       subst c6
       have H1 : (some false) = some r := by rw [if_neg (show ¬ (false = true) by decide)] at H; exact H
       clear H
       have H := H1
       clear H1
       obtain rfl := Option.some.inj H
       have p202 : 0 ≤ (x3_1 : Int) := of_decide_eq_true (by first | (with_reducible assumption) | assumption)
       have q202 : x3_1 < (l0.length : Int) := of_decide_eq_true (by first | (with_reducible assumption) | assumption)
       obtain ⟨ad202, A202_0, c202_0, e202, hx202_0, hl202_0, hi202_0⟩ := at_L4 HR0.out x3_1 p202 q202
       cases e202
       have HR202_0 := Ax.mk hi202_0
       have HC202_0 := Ax.mk hl202_0
       clear hi202_0 hl202_0
       replace p202 := eq_true p202
       replace q202 := eq_true q202
       go_wp2_with (first | ((with_reducible refine gate_callee (f := 32) rfl ?_); refine goesL_ (some 18) rfl rfl Tryd.func32 (by kernel_rfl) rfl #[.slice A202_0 (rd_L4 l0 x3_1).length c202_0] rfl (by (try simp only [List.map_toArray, List.map_cons, List.map_nil]); first | done | rfl | (simp only [List.length_drop, List.length_take]; rfl) | (rw [wrap_sum2 (by assumption)]; rfl)) ?_; (with_reducible refine (l13_shortSteps.calls k1 _ _ (rd_L4 l0 x3_1) false _ ?side1 ?side2 A5.out).mono ?_); (case side1 => repeat (first | exact HR202_0.out | (with_reducible refine Kd.C_alloc ?_ _) | (with_reducible refine Kd.C_drewN ?_ _) | (with_reducible refine Kd.C_drew ?_))); (case side2 => exact HC202_0.out); rintro e w' ⟨rfl, ⟨nd, rfl⟩⟩; refine ⟨_, rfl, ?_⟩))
       go_ret
       exact ⟨by first | rfl | (simp; done) | (simp [*]; done), by repeat (first | exact Drawn0.refl _ | apply Drawn0.step)⟩
     ·rw [if_neg c4] at H
      exact absurd H (by simp)
    ·rw [if_neg c3] at H
     have c3b0 : decide (x3_1 < (l0.length : Int)) = false := decide_eq_false c3
     clear c3
     obtain rfl := Option.some.inj H
     go_wp2
     go_ret
     exact ⟨by first | rfl | (simp; done) | (simp [*]; done), by repeat (first | exact Drawn0.refl _ | apply Drawn0.step)⟩
def l13_shown.f (k : Nat)  : Option (Bool) := (journal_New.f k 5 (([(⟨3, 1, 0, 0, (⟨#[]⟩ : ByteArray)⟩ : S24)] : List (S24)))).bind fun bt170 => ((journal_Add.f k bt170.1 bt170.2.1 bt170.2.2.1 (([(⟨3, 2, 0, 0, (⟨#[]⟩ : ByteArray)⟩ : S24)] : List (S24)))).bind fun bt180 => ((journal_Add.f k bt180.1 bt180.2.1 bt180.2.2.1 (([(⟨3, 3, 0, 0, (⟨#[]⟩ : ByteArray)⟩ : S24)] : List (S24)))).bind fun bt190 => ((journal_After.f k bt190.1 bt190.2.1 bt190.2.2.1 6).bind fun t197 => (if bt170.2.2.2 = 0 then (if bt180.2.2.2 = 0 then (if bt190.2.2.2 = 0 then (if bt190.1 = 7 then (if (t197.length : Int) = 1 then (if 0 < (t197.length : Int) then (some (((rd_T24 t197 0).f1) == 3)) else (none)) else (none)) else (none)) else (none)) else (none)) else (none)))))
theorem l13_shown.mono : ∀ k, LeO (l13_shown.f k ) (l13_shown.f (k + 1) ) := by
 intro  k
 unfold l13_shown.f
 repeat' first
   | (with_reducible exact journal_Add.mono _ _ _ _ _)
   | (with_reducible exact journal_After.mono _ _ _ _ _)
   | (with_reducible exact journal_New.mono _ _ _)
   | (with_reducible exact LeO.refl _)
   | (with_reducible exact LeO.none _)
   | (with_reducible refine LeO.ite ?_ ?_)
   | (with_reducible refine LeO.bind ?_ (fun _ => ?_))
   | exact journal_Add.mono _ _ _ _ _
   | exact journal_After.mono _ _ _ _ _
   | exact journal_New.mono _ _ _
   | exact LeO.none _
   | refine LeO.ite ?_ ?_
   | refine LeO.bind ?_ (fun _ => ?_)
set_option maxHeartbeats 8000000 in
set_option maxRecDepth 100000 in
theorem l13_shown.calls (k : Nat)  (r : Bool) (w : World) (h : l13_shown.f k  = some r) (HT : Tabs w) :
  Calls Tryd.prog 31 #[] w fun e w' => e = .returned (.bool r) ∧ Below w.heap.size w w' := by
 have hu24 := Tryd.underlying24
 have hu66 := Tryd.underlying66
 have HB := Ax.mk (Below.refl w.heap.size w)
 have H : ((journal_New.f k 5 (([(⟨3, 1, 0, 0, (⟨#[]⟩ : ByteArray)⟩ : S24)] : List (S24)))).bind fun bt170 => ((journal_Add.f k bt170.1 bt170.2.1 bt170.2.2.1 (([(⟨3, 2, 0, 0, (⟨#[]⟩ : ByteArray)⟩ : S24)] : List (S24)))).bind fun bt180 => ((journal_Add.f k bt180.1 bt180.2.1 bt180.2.2.1 (([(⟨3, 3, 0, 0, (⟨#[]⟩ : ByteArray)⟩ : S24)] : List (S24)))).bind fun bt190 => ((journal_After.f k bt190.1 bt190.2.1 bt190.2.2.1 6).bind fun t197 => (if bt170.2.2.2 = 0 then (if bt180.2.2.2 = 0 then (if bt190.2.2.2 = 0 then (if bt190.1 = 7 then (if (t197.length : Int) = 1 then (if 0 < (t197.length : Int) then (some (((rd_T24 t197 0).f1) == 3)) else (none)) else (none)) else (none)) else (none)) else (none)) else (none)))))) = some r := h
 clear h
 obtain ⟨y167, hy167⟩ : ∃ y_ : List (S24), y_ = (([(⟨3, 1, 0, 0, (⟨#[]⟩ : ByteArray)⟩ : S24)] : List (S24))) := ⟨_, rfl⟩
 replace H : ((journal_New.f k 5 y167).bind fun bt170 => ((journal_Add.f k bt170.1 bt170.2.1 bt170.2.2.1 (([(⟨3, 2, 0, 0, (⟨#[]⟩ : ByteArray)⟩ : S24)] : List (S24)))).bind fun bt180 => ((journal_Add.f k bt180.1 bt180.2.1 bt180.2.2.1 (([(⟨3, 3, 0, 0, (⟨#[]⟩ : ByteArray)⟩ : S24)] : List (S24)))).bind fun bt190 => ((journal_After.f k bt190.1 bt190.2.1 bt190.2.2.1 6).bind fun t197 => (if bt170.2.2.2 = 0 then (if bt180.2.2.2 = 0 then (if bt190.2.2.2 = 0 then (if bt190.1 = 7 then (if (t197.length : Int) = 1 then (if 0 < (t197.length : Int) then (some (((rd_T24 t197 0).f1) == 3)) else (none)) else (none)) else (none)) else (none)) else (none)) else (none)))))) = some r := by first | (rw [hy167]; with_reducible exact H) | (have H2_ := (Option.bind_some _ _).symm.trans H; rw [hy167]; with_reducible exact H2_) | (have H2_ := (Option.bind_some _ _).symm.trans H; with_reducible exact H2_) | with_reducible exact H | (rw [hy167]; exact H) | exact H
 have Ny167 := Ax.mk hy167
 clear hy167
 replace H := Option.bind_eq_some_iff.mp H
 obtain ⟨⟨t170, t171, t174, t175⟩, A10, H⟩ := H
 replace H : ((journal_Add.f k t170 t171 t174 (([(⟨3, 2, 0, 0, (⟨#[]⟩ : ByteArray)⟩ : S24)] : List (S24)))).bind fun bt180 => ((journal_Add.f k bt180.1 bt180.2.1 bt180.2.2.1 (([(⟨3, 3, 0, 0, (⟨#[]⟩ : ByteArray)⟩ : S24)] : List (S24)))).bind fun bt190 => ((journal_After.f k bt190.1 bt190.2.1 bt190.2.2.1 6).bind fun t197 => (if t175 = 0 then (if bt180.2.2.2 = 0 then (if bt190.2.2.2 = 0 then (if bt190.1 = 7 then (if (t197.length : Int) = 1 then (if 0 < (t197.length : Int) then (some (((rd_T24 t197 0).f1) == 3)) else (none)) else (none)) else (none)) else (none)) else (none)) else (none))))) = some r := H
 have A1 := Ax.mk A10
 clear A10
 obtain ⟨y177, hy177⟩ : ∃ y_ : List (S24), y_ = (([(⟨3, 2, 0, 0, (⟨#[]⟩ : ByteArray)⟩ : S24)] : List (S24))) := ⟨_, rfl⟩
 replace H : ((journal_Add.f k t170 t171 t174 y177).bind fun bt180 => ((journal_Add.f k bt180.1 bt180.2.1 bt180.2.2.1 (([(⟨3, 3, 0, 0, (⟨#[]⟩ : ByteArray)⟩ : S24)] : List (S24)))).bind fun bt190 => ((journal_After.f k bt190.1 bt190.2.1 bt190.2.2.1 6).bind fun t197 => (if t175 = 0 then (if bt180.2.2.2 = 0 then (if bt190.2.2.2 = 0 then (if bt190.1 = 7 then (if (t197.length : Int) = 1 then (if 0 < (t197.length : Int) then (some (((rd_T24 t197 0).f1) == 3)) else (none)) else (none)) else (none)) else (none)) else (none)) else (none))))) = some r := by first | (rw [hy177]; with_reducible exact H) | (have H2_ := (Option.bind_some _ _).symm.trans H; rw [hy177]; with_reducible exact H2_) | (have H2_ := (Option.bind_some _ _).symm.trans H; with_reducible exact H2_) | with_reducible exact H | (rw [hy177]; exact H) | exact H
 have Ny177 := Ax.mk hy177
 clear hy177
 replace H := Option.bind_eq_some_iff.mp H
 obtain ⟨⟨t180, t181, t184, t185⟩, A20, H⟩ := H
 replace H : ((journal_Add.f k t180 t181 t184 (([(⟨3, 3, 0, 0, (⟨#[]⟩ : ByteArray)⟩ : S24)] : List (S24)))).bind fun bt190 => ((journal_After.f k bt190.1 bt190.2.1 bt190.2.2.1 6).bind fun t197 => (if t175 = 0 then (if t185 = 0 then (if bt190.2.2.2 = 0 then (if bt190.1 = 7 then (if (t197.length : Int) = 1 then (if 0 < (t197.length : Int) then (some (((rd_T24 t197 0).f1) == 3)) else (none)) else (none)) else (none)) else (none)) else (none)) else (none)))) = some r := H
 have A2 := Ax.mk A20
 clear A20
 obtain ⟨y187, hy187⟩ : ∃ y_ : List (S24), y_ = (([(⟨3, 3, 0, 0, (⟨#[]⟩ : ByteArray)⟩ : S24)] : List (S24))) := ⟨_, rfl⟩
 replace H : ((journal_Add.f k t180 t181 t184 y187).bind fun bt190 => ((journal_After.f k bt190.1 bt190.2.1 bt190.2.2.1 6).bind fun t197 => (if t175 = 0 then (if t185 = 0 then (if bt190.2.2.2 = 0 then (if bt190.1 = 7 then (if (t197.length : Int) = 1 then (if 0 < (t197.length : Int) then (some (((rd_T24 t197 0).f1) == 3)) else (none)) else (none)) else (none)) else (none)) else (none)) else (none)))) = some r := by first | (rw [hy187]; with_reducible exact H) | (have H2_ := (Option.bind_some _ _).symm.trans H; rw [hy187]; with_reducible exact H2_) | (have H2_ := (Option.bind_some _ _).symm.trans H; with_reducible exact H2_) | with_reducible exact H | (rw [hy187]; exact H) | exact H
 have Ny187 := Ax.mk hy187
 clear hy187
 replace H := Option.bind_eq_some_iff.mp H
 obtain ⟨⟨t190, t191, t194, t195⟩, A30, H⟩ := H
 replace H : ((journal_After.f k t190 t191 t194 6).bind fun t197 => (if t175 = 0 then (if t185 = 0 then (if t195 = 0 then (if t190 = 7 then (if (t197.length : Int) = 1 then (if 0 < (t197.length : Int) then (some (((rd_T24 t197 0).f1) == 3)) else (none)) else (none)) else (none)) else (none)) else (none)) else (none))) = some r := H
 have A3 := Ax.mk A30
 clear A30
 replace H := Option.bind_eq_some_iff.mp H
 obtain ⟨t197, A40, H⟩ := H
 replace H : (if t175 = 0 then (if t185 = 0 then (if t195 = 0 then (if t190 = 7 then (if (t197.length : Int) = 1 then (if 0 < (t197.length : Int) then (some (((rd_T24 t197 0).f1) == 3)) else (none)) else (none)) else (none)) else (none)) else (none)) else (none)) = some r := H
 have A4 := Ax.mk A40
 clear A40
 by_cases c5 : t175 = 0
 ·rw [if_pos c5] at H
  have c5b0 : (t175 == 0) = true := beq_iff_eq.mpr c5
  have c5b1 : (t175 != 0) = false := bne_eq_false_iff_eq.mpr c5
  clear c5
  by_cases c6 : t185 = 0
  ·rw [if_pos c6] at H
   have c6b0 : (t185 == 0) = true := beq_iff_eq.mpr c6
   have c6b1 : (t185 != 0) = false := bne_eq_false_iff_eq.mpr c6
   clear c6
   by_cases c7 : t195 = 0
   ·rw [if_pos c7] at H
    have c7b0 : (t195 == 0) = true := beq_iff_eq.mpr c7
    have c7b1 : (t195 != 0) = false := bne_eq_false_iff_eq.mpr c7
    clear c7
    by_cases c8 : t190 = 7
    ·rw [if_pos c8] at H
     have c8b0 : (t190 == 7) = true := beq_iff_eq.mpr c8
     have c8b1 : (t190 != 7) = false := bne_eq_false_iff_eq.mpr c8
     clear c8
     by_cases c9 : (t197.length : Int) = 1
     ·rw [if_pos c9] at H
      have c9b0 : ((t197.length : Int) == 1) = true := beq_iff_eq.mpr c9
      have c9b1 : ((t197.length : Int) != 1) = false := bne_eq_false_iff_eq.mpr c9
      clear c9
      by_cases c10 : 0 < (t197.length : Int)
      ·rw [if_pos c10] at H
       have c10b0 : decide (0 < (t197.length : Int)) = true := decide_eq_true c10
       have c10b1 : decide (0 < t197.length) = true := decide_eq_true (by omega)
       clear c10
       obtain rfl := Option.some.inj H
       go_enter Tryd.func31, Tryd.ntmps31
       go_wp2_with (first | ((with_reducible refine gate_dst (N := 10) rfl ?_); (try (refine gate_guard (by rfl) ?_; dsimp only)); refine Kd.R_lit k24 _ 24 ?hg (N := 10) ?hd (xs := ([(⟨3, 1, 0, 0, (⟨#[]⟩ : ByteArray)⟩ : S24)] : List (S24))) (inner := [.int .i64 3, .int .i64 1, .int .i64 0, .int .u64 0, .string (⟨#[]⟩ : ByteArray)]) (ok := fun _ => True) (okp := fun _ => True) ?hr ?hp (fun _ hk => hk) trivial (Below.refl _ _) (Nat.le_refl _) (by simp) ?_; (case hd => rfl); (case hg => rfl); (case hr => first | (go_simp; done) | (go_simp; rfl)); (case hp => exact (Reps.c5 (show Kd.M k24 _ _ _ (⟨3, 1, 0, 0, (⟨#[]⟩ : ByteArray)⟩ : S24) [.int .i64 3, .int .i64 1, .int .i64 0, .int .u64 0, .string (⟨#[]⟩ : ByteArray)] from (k24_mkM _ _ _ (⟨3, 1, 0, 0, (⟨#[]⟩ : ByteArray)⟩ : S24) )) (Reps.none _ _))); intro v168 w11 ho12 hb hg_ hnew_; clear hg_ hnew_; (first | rw [← Ny167.out] at ho12 | (simp only [Int.reduceToNat] at ho12; rw [← Ny167.out] at ho12)); have n0_ := Ax.mk (Kd.R_lower ho12 (bS bA)); have n1_ := Ax.mk (bP bA hb); clear HB; have HO169 := n0_; have HB := n1_; clear n0_ n1_; clear hb ho12; obtain ⟨Ao13, co13, eo13⟩ := Kd.R_slice HO169.out; subst eo13) | ((with_reducible refine gate_callee (f := 38) rfl ?_); refine goesL_ (some 11) rfl rfl Tryd.func38 (by kernel_rfl) rfl #[.int .u64 5, .slice Ao13 y167.length co13] rfl (by (try simp only [List.map_toArray, List.map_cons, List.map_nil]); first | done | rfl | (simp only [List.length_drop, List.length_take]; rfl) | (rw [wrap_sum2 (by assumption)]; rfl)) ?_; (with_reducible refine (journal_New.calls k 5 _ _ y167 t170 t171 t174 t175 _ ?side1 ?side2 A1.out (HT.below bA)).mono ?_); (case side1 => repeat (first | exact (Kd.R_reads' HO169.out).2.2 | (with_reducible refine Kd.C_alloc ?_ _) | (with_reducible refine Kd.C_drewN ?_ _) | (with_reducible refine Kd.C_drew ?_))); (case side2 => exact (Kd.R_reads' HO169.out).2.1); rintro e w14 ⟨v172, rfl, ho0, hb⟩; refine ⟨_, rfl, ?_⟩; have n0_ := Ax.mk (Kd.R_below (by exact Kd.R_to HO169.out) hb); have n1_ := Ax.mk (Kd.N_lower (Kd.N_mono (ok' := fun k_ => some k_ ≠ (.slice Ao13 y167.length co13 : Value).ownBlock) ho0 (fun k_ hk_ => (Kd.fresh' (Kd.R_lt (by exact Kd.R_to HO169.out)) k_ hk_))) (bS bA)); have n2_ := Ax.mk (bP bA hb); clear HO169; clear HB; have HO169 := n0_; have HO173 := n1_; have HB := n2_; clear n0_ n1_ n2_; (try clear hb); (try clear hb2); (try clear hk); (try clear hi); (try clear ho0)) | ((with_reducible refine gate_dst (N := 1) rfl ?_); (try (refine gate_guard (by rfl) ?_; dsimp only)); refine box_event ?hg (N := 1) ?hd (cs := #[.int .u64 0, .slice none 0 0, .string (⟨#[]⟩ : ByteArray)]) (t := 66) ?hr ?_; (case hd => rfl); (case hg => rfl); (case hr => first | (go_simp; done) | (go_simp; rfl)); intro gb176 hg w15 hbox hb; have n0_ := Ax.mk (Kd.R_below (by exact Kd.R_to HO169.out) hb); have n1_ := Ax.mk (Kd.N_below (Kd.N_elderB (by exact Kd.N_to HO173.out) gb176 (Nat.le_of_eq hg.symm)) hb); have n2_ := Ax.mk (bP bA hb); have n3_ := Ax.mk (hbox); have n4_ := Ax.mk ((ge_new hg : w.heap.size ≤ gb176)); have n5_ := n4_; clear HO169; clear HO173; clear HB; have HO169 := n0_; have HO173 := n1_; have HB := n2_; have BK176 := n3_; have GW176 := n4_; have GE176 := n5_; clear n0_ n1_ n2_ n3_ n4_ n5_; clear hb hbox hg; have hcz16_0 : w15.cell? ⟨gb176, 0, none⟩ = some (.int .u64 0) := (bC BK176.out 0).trans rfl; have hcz16_1 : w15.cell? ⟨gb176, 1, none⟩ = some (.slice none 0 0) := (bC BK176.out 1).trans rfl; have hcz16_2 : w15.cell? ⟨gb176, 2, none⟩ = some (.string (⟨#[]⟩ : ByteArray)) := (bC BK176.out 2).trans rfl; have hfz16_0 := bF BK176.out 0; have hfz16_1 := bF BK176.out 1; have hfz16_2 := bF BK176.out 2; obtain ⟨Ao17, co17, eo17⟩ := Kd.N_slice HO173.out; subst eo17) | ((with_reducible refine gate_dst (N := 17) rfl ?_); (try (refine gate_guard (by rfl) ?_; dsimp only)); refine Kd.R_lit k24 _ 24 ?hg (N := 17) ?hd (xs := ([(⟨3, 2, 0, 0, (⟨#[]⟩ : ByteArray)⟩ : S24)] : List (S24))) (inner := [.int .i64 3, .int .i64 2, .int .i64 0, .int .u64 0, .string (⟨#[]⟩ : ByteArray)]) (ok := fun _ => True) (okp := fun _ => True) ?hr ?hp (fun _ hk => hk) trivial (Below.refl _ _) (Nat.le_refl _) (by simp) ?_; (case hd => rfl); (case hg => rfl); (case hr => first | (go_simp; done) | (go_simp; rfl)); (case hp => exact (Reps.c5 (show Kd.M k24 _ _ _ (⟨3, 2, 0, 0, (⟨#[]⟩ : ByteArray)⟩ : S24) [.int .i64 3, .int .i64 2, .int .i64 0, .int .u64 0, .string (⟨#[]⟩ : ByteArray)] from (k24_mkM _ _ _ (⟨3, 2, 0, 0, (⟨#[]⟩ : ByteArray)⟩ : S24) )) (Reps.none _ _))); intro v178 w18 ho19 hb hg_ hnew_; clear hg_ hnew_; (first | rw [← Ny177.out] at ho19 | (simp only [Int.reduceToNat] at ho19; rw [← Ny177.out] at ho19)); have n0_ := Ax.mk (Kd.R_elder' (by apply Kd.R_to; exact (Kd.R_mono (Kd.R_far (p := ⟨gb176, 2, none⟩) (Kd.R_far (p := ⟨gb176, 1, none⟩) (Kd.R_far (p := ⟨gb176, 0, none⟩) (Kd.R_types HO169.out BK176.out (by decide)) (fun _ hk => hk.2) (.int .u64 t170)) (fun _ hk => hk.2) (.slice Ao17 t171.length co17)) (fun _ hk => hk.2) (.string t174)) (fun _ h_ => h_.1))) (Kd.R_base ho19) hb); have n1_ := Ax.mk (Kd.N_elder' (by apply Kd.N_to; exact (Kd.N_mono (Kd.N_far (p := ⟨gb176, 2, none⟩) (Kd.N_far (p := ⟨gb176, 1, none⟩) (Kd.N_far (p := ⟨gb176, 0, none⟩) (Kd.N_mono HO173.out (fun k_ hk => (⟨hk, hk.2⟩ : _ ∧ k_ ≠ gb176))) (fun _ hk => hk.2) (.int .u64 t170)) (fun _ hk => hk.2) (.slice Ao17 t171.length co17)) (fun _ hk => hk.2) (.string t174)) (fun _ h_ => h_.1))) (Kd.R_base ho19) hb); have n2_ := Ax.mk (Kd.R_lower (Kd.R_new' ho19 (Kd.R_lt (by apply Kd.R_to; exact (Kd.R_mono (Kd.R_far (p := ⟨gb176, 2, none⟩) (Kd.R_far (p := ⟨gb176, 1, none⟩) (Kd.R_far (p := ⟨gb176, 0, none⟩) (Kd.R_types HO169.out BK176.out (by decide)) (fun _ hk => hk.2) (.int .u64 t170)) (fun _ hk => hk.2) (.slice Ao17 t171.length co17)) (fun _ hk => hk.2) (.string t174)) (fun _ h_ => h_.1))))) (bS bA)); have n3_ := Ax.mk (bB (g := gb176) (o := .cells #[.int .u64 t170, .slice Ao17 t171.length co17, .string t174] 66 (0, 0)) (by refine bT ?_; refine bU (cs := #[.int .u64 t170, .slice Ao17 t171.length co17, .string (⟨#[]⟩ : ByteArray)]) ?_ 2 _ rfl; refine bT ?_; refine bU (cs := #[.int .u64 t170, .slice none 0 0, .string (⟨#[]⟩ : ByteArray)]) ?_ 1 _ rfl; refine bT ?_; refine bU (cs := #[.int .u64 0, .slice none 0 0, .string (⟨#[]⟩ : ByteArray)]) ?_ 0 _ rfl; exact bT BK176.out) hb); have n4_ := Ax.mk (bP bA hb); clear HO169; clear HO173; clear BK176; clear HB; have HO169 := n0_; have HO173 := n1_; have HO179 := n2_; have BK176 := n3_; have HB := n4_; clear n0_ n1_ n2_ n3_ n4_; clear hb ho19; obtain ⟨Ao20, co20, eo20⟩ := Kd.R_slice HO179.out; subst eo20) | ((with_reducible refine gate_callee (f := 39) rfl ?_); refine goesL_ (some 18) rfl rfl Tryd.func39 (by kernel_rfl) rfl #[.agg #[.int .u64 t170, .slice Ao17 t171.length co17, .string t174], .slice Ao20 y177.length co20] rfl (by (try simp only [List.map_toArray, List.map_cons, List.map_nil]); first | done | rfl | (simp only [List.length_drop, List.length_take]; rfl) | (rw [wrap_sum2 (by assumption)]; rfl)) ?_; (with_reducible refine (journal_Add.calls k t170 (fun k_ => ((some k_ ≠ (.slice Ao13 y167.length co13 : Value).ownBlock ∧ k_ ≠ gb176) ∧ some k_ ≠ (.slice Ao20 y177.length co20 : Value).ownBlock)) _ _ t171 t174 _ _ y177 t180 t181 t184 t185 _ ?side1 ?side2 ?side3 A2.out (HT.below bA)).mono ?_); (case side1 => exact Kd.N_V (HO173.out)); (case side2 => repeat (first | exact (Kd.R_reads' HO179.out).2.2 | (with_reducible refine Kd.C_alloc ?_ _) | (with_reducible refine Kd.C_drewN ?_ _) | (with_reducible refine Kd.C_drew ?_))); (case side3 => exact (Kd.R_reads' HO179.out).2.1); rintro e w21 ⟨v182, rfl, ho0, hb⟩; refine ⟨_, rfl, ?_⟩; have n0_ := Ax.mk (Kd.R_below (by exact Kd.R_to HO169.out) hb); have n1_ := Ax.mk (Kd.N_elder' (by exact Kd.N_to HO173.out) (Kd.N_base ho0) hb); have n2_ := Ax.mk (Kd.R_below (by exact Kd.R_to HO179.out) hb); have n3_ := Ax.mk (Kd.N_lower (Kd.N_mono (ok' := fun k_ => some k_ ≠ (.slice Ao13 y167.length co13 : Value).ownBlock ∧ some k_ ≠ (.slice Ao20 y177.length co20 : Value).ownBlock ∧ k_ ≠ gb176) ho0 (fun k_ hk_ => ⟨Or.elim hk_ (fun hs_ => hs_.1.1) (fun hn_ => (Kd.fresh' (Kd.R_lt (by exact Kd.R_to HO169.out)) k_ hn_)), Or.elim hk_ (fun hs_ => hs_.2) (fun hn_ => (Kd.fresh' (Kd.R_lt (by exact Kd.R_to HO179.out)) k_ hn_)), Or.elim hk_ (fun hs_ => hs_.1.2) (fun hn_ => (Kd.freshB (g := gb176) (o := .cells #[.int .u64 t170, .slice Ao17 t171.length co17, .string t174] 66 (0, 0)) (bT BK176.out) k_ hn_))⟩)) (bS bA)); have n4_ := Ax.mk (bB (bT BK176.out) hb); have n5_ := Ax.mk (bP bA hb); clear HO169; clear HO173; clear HO179; clear BK176; clear HB; have HO169 := n0_; have HO173 := n1_; have HO179 := n2_; have HO183 := n3_; have BK176 := n4_; have HB := n5_; clear n0_ n1_ n2_ n3_ n4_ n5_; (try clear hb); (try clear hb2); (try clear hk); (try clear hi); (try clear ho0)) | ((with_reducible refine gate_dst (N := 3) rfl ?_); (try (refine gate_guard (by rfl) ?_; dsimp only)); refine box_event ?hg (N := 3) ?hd (cs := #[.int .u64 0, .slice none 0 0, .string (⟨#[]⟩ : ByteArray)]) (t := 66) ?hr ?_; (case hd => rfl); (case hg => rfl); (case hr => first | (go_simp; done) | (go_simp; rfl)); intro gb186 hg w22 hbox hb; have n0_ := Ax.mk (Kd.R_below (by exact Kd.R_to HO169.out) hb); have n1_ := Ax.mk (Kd.N_below (Kd.N_elderB (by exact Kd.N_to HO173.out) gb186 (Nat.le_of_eq hg.symm)) hb); have n2_ := Ax.mk (Kd.R_below (by exact Kd.R_to HO179.out) hb); have n3_ := Ax.mk (Kd.N_below (Kd.N_elderB (by exact Kd.N_to HO183.out) gb186 (Nat.le_of_eq hg.symm)) hb); have n4_ := Ax.mk (bB (bT BK176.out) hb); have n5_ := Ax.mk (bP bA hb); have n6_ := Ax.mk (hbox); have n7_ := Ax.mk ((ge_new hg : w.heap.size ≤ gb186)); have n8_ := n7_; have n9_ := Ax.mk ((ne_lt hg BK176.out : gb176 ≠ gb186)); have n10_ := Ax.mk ((ne_gt hg BK176.out : gb186 ≠ gb176)); clear HO169; clear HO173; clear HO179; clear HO183; clear BK176; clear HB; have HO169 := n0_; have HO173 := n1_; have HO179 := n2_; have HO183 := n3_; have BK176 := n4_; have HB := n5_; have BK186 := n6_; have GW186 := n7_; have GE186 := n8_; have NB176_186 := n9_; have NB186_176 := n10_; clear n0_ n1_ n2_ n3_ n4_ n5_ n6_ n7_ n8_ n9_ n10_; clear hb hbox hg; have hnb23 := NB186_176.out; have hnc23 := NB176_186.out; have hcz24_0 : w22.cell? ⟨gb186, 0, none⟩ = some (.int .u64 0) := (bC BK186.out 0).trans rfl; have hcz24_1 : w22.cell? ⟨gb186, 1, none⟩ = some (.slice none 0 0) := (bC BK186.out 1).trans rfl; have hcz24_2 : w22.cell? ⟨gb186, 2, none⟩ = some (.string (⟨#[]⟩ : ByteArray)) := (bC BK186.out 2).trans rfl; have hfz24_0 := bF BK186.out 0; have hfz24_1 := bF BK186.out 1; have hfz24_2 := bF BK186.out 2; obtain ⟨Ao25, co25, eo25⟩ := Kd.N_slice HO183.out; subst eo25) | ((with_reducible refine gate_dst (N := 24) rfl ?_); (try (refine gate_guard (by rfl) ?_; dsimp only)); refine Kd.R_lit k24 _ 24 ?hg (N := 24) ?hd (xs := ([(⟨3, 3, 0, 0, (⟨#[]⟩ : ByteArray)⟩ : S24)] : List (S24))) (inner := [.int .i64 3, .int .i64 3, .int .i64 0, .int .u64 0, .string (⟨#[]⟩ : ByteArray)]) (ok := fun _ => True) (okp := fun _ => True) ?hr ?hp (fun _ hk => hk) trivial (Below.refl _ _) (Nat.le_refl _) (by simp) ?_; (case hd => rfl); (case hg => rfl); (case hr => first | (go_simp; done) | (go_simp; rfl)); (case hp => exact (Reps.c5 (show Kd.M k24 _ _ _ (⟨3, 3, 0, 0, (⟨#[]⟩ : ByteArray)⟩ : S24) [.int .i64 3, .int .i64 3, .int .i64 0, .int .u64 0, .string (⟨#[]⟩ : ByteArray)] from (k24_mkM _ _ _ (⟨3, 3, 0, 0, (⟨#[]⟩ : ByteArray)⟩ : S24) )) (Reps.none _ _))); intro v188 w26 ho27 hb hg_ hnew_; clear hg_ hnew_; (first | rw [← Ny187.out] at ho27 | (simp only [Int.reduceToNat] at ho27; rw [← Ny187.out] at ho27)); have n0_ := Ax.mk (Kd.R_elder' (by apply Kd.R_to; exact (Kd.R_mono (Kd.R_far (p := ⟨gb186, 2, none⟩) (Kd.R_far (p := ⟨gb186, 1, none⟩) (Kd.R_far (p := ⟨gb186, 0, none⟩) (Kd.R_types HO169.out BK186.out (by decide)) (fun _ hk => hk.2) (.int .u64 t180)) (fun _ hk => hk.2) (.slice Ao25 t181.length co25)) (fun _ hk => hk.2) (.string t184)) (fun _ h_ => h_.1))) (Kd.R_base ho27) hb); have n1_ := Ax.mk (Kd.N_elder' (by apply Kd.N_to; exact (Kd.N_mono (Kd.N_far (p := ⟨gb186, 2, none⟩) (Kd.N_far (p := ⟨gb186, 1, none⟩) (Kd.N_far (p := ⟨gb186, 0, none⟩) (Kd.N_mono HO173.out (fun k_ hk => (⟨hk, hk.2⟩ : _ ∧ k_ ≠ gb186))) (fun _ hk => hk.2) (.int .u64 t180)) (fun _ hk => hk.2) (.slice Ao25 t181.length co25)) (fun _ hk => hk.2) (.string t184)) (fun _ h_ => h_.1))) (Kd.R_base ho27) hb); have n2_ := Ax.mk (Kd.R_elder' (by apply Kd.R_to; exact (Kd.R_mono (Kd.R_far (p := ⟨gb186, 2, none⟩) (Kd.R_far (p := ⟨gb186, 1, none⟩) (Kd.R_far (p := ⟨gb186, 0, none⟩) (Kd.R_types HO179.out BK186.out (by decide)) (fun _ hk => hk.2) (.int .u64 t180)) (fun _ hk => hk.2) (.slice Ao25 t181.length co25)) (fun _ hk => hk.2) (.string t184)) (fun _ h_ => h_.1))) (Kd.R_base ho27) hb); have n3_ := Ax.mk (Kd.N_elder' (by apply Kd.N_to; exact (Kd.N_mono (Kd.N_far (p := ⟨gb186, 2, none⟩) (Kd.N_far (p := ⟨gb186, 1, none⟩) (Kd.N_far (p := ⟨gb186, 0, none⟩) (Kd.N_mono HO183.out (fun k_ hk => (⟨hk, hk.2⟩ : _ ∧ k_ ≠ gb186))) (fun _ hk => hk.2) (.int .u64 t180)) (fun _ hk => hk.2) (.slice Ao25 t181.length co25)) (fun _ hk => hk.2) (.string t184)) (fun _ h_ => h_.1))) (Kd.R_base ho27) hb); have n4_ := Ax.mk (Kd.R_lower (Kd.R_new' (Kd.R_new' ho27 (Kd.R_lt (by apply Kd.R_to; exact (Kd.R_mono (Kd.R_far (p := ⟨gb186, 2, none⟩) (Kd.R_far (p := ⟨gb186, 1, none⟩) (Kd.R_far (p := ⟨gb186, 0, none⟩) (Kd.R_types HO169.out BK186.out (by decide)) (fun _ hk => hk.2) (.int .u64 t180)) (fun _ hk => hk.2) (.slice Ao25 t181.length co25)) (fun _ hk => hk.2) (.string t184)) (fun _ h_ => h_.1))))) (Kd.R_lt (by apply Kd.R_to; exact (Kd.R_mono (Kd.R_far (p := ⟨gb186, 2, none⟩) (Kd.R_far (p := ⟨gb186, 1, none⟩) (Kd.R_far (p := ⟨gb186, 0, none⟩) (Kd.R_types HO179.out BK186.out (by decide)) (fun _ hk => hk.2) (.int .u64 t180)) (fun _ hk => hk.2) (.slice Ao25 t181.length co25)) (fun _ hk => hk.2) (.string t184)) (fun _ h_ => h_.1))))) (bS bA)); have n5_ := Ax.mk (bB (g := gb176) (o := .cells #[.int .u64 t170, .slice Ao17 t171.length co17, .string t174] 66 (0, 0)) (by refine bT ?_; refine bR ?_ NB176_186.out _; refine bT ?_; refine bR ?_ NB176_186.out _; refine bT ?_; refine bR ?_ NB176_186.out _; exact bT BK176.out) hb); have n6_ := Ax.mk (bB (g := gb186) (o := .cells #[.int .u64 t180, .slice Ao25 t181.length co25, .string t184] 66 (0, 0)) (by refine bT ?_; refine bU (cs := #[.int .u64 t180, .slice Ao25 t181.length co25, .string (⟨#[]⟩ : ByteArray)]) ?_ 2 _ rfl; refine bT ?_; refine bU (cs := #[.int .u64 t180, .slice none 0 0, .string (⟨#[]⟩ : ByteArray)]) ?_ 1 _ rfl; refine bT ?_; refine bU (cs := #[.int .u64 0, .slice none 0 0, .string (⟨#[]⟩ : ByteArray)]) ?_ 0 _ rfl; exact bT BK186.out) hb); have n7_ := Ax.mk (bP bA hb); clear HO169; clear HO173; clear HO179; clear HO183; clear BK176; clear BK186; clear HB; have HO169 := n0_; have HO173 := n1_; have HO179 := n2_; have HO183 := n3_; have HO189 := n4_; have BK176 := n5_; have BK186 := n6_; have HB := n7_; clear n0_ n1_ n2_ n3_ n4_ n5_ n6_ n7_; clear hb ho27; obtain ⟨Ao28, co28, eo28⟩ := Kd.R_slice HO189.out; subst eo28) | ((with_reducible refine gate_callee (f := 39) rfl ?_); refine goesL_ (some 25) rfl rfl Tryd.func39 (by kernel_rfl) rfl #[.agg #[.int .u64 t180, .slice Ao25 t181.length co25, .string t184], .slice Ao28 y187.length co28] rfl (by (try simp only [List.map_toArray, List.map_cons, List.map_nil]); first | done | rfl | (simp only [List.length_drop, List.length_take]; rfl) | (rw [wrap_sum2 (by assumption)]; rfl)) ?_; (with_reducible refine (journal_Add.calls k t180 (fun k_ => (((some k_ ≠ (.slice Ao13 y167.length co13 : Value).ownBlock ∧ (some k_ ≠ (.slice Ao20 y177.length co20 : Value).ownBlock ∧ k_ ≠ gb176)) ∧ k_ ≠ gb186) ∧ some k_ ≠ (.slice Ao28 y187.length co28 : Value).ownBlock)) _ _ t181 t184 _ _ y187 t190 t191 t194 t195 _ ?side1 ?side2 ?side3 A3.out (HT.below bA)).mono ?_); (case side1 => exact Kd.N_V (HO183.out)); (case side2 => repeat (first | exact (Kd.R_reads' HO189.out).2.2 | (with_reducible refine Kd.C_alloc ?_ _) | (with_reducible refine Kd.C_drewN ?_ _) | (with_reducible refine Kd.C_drew ?_))); (case side3 => exact (Kd.R_reads' HO189.out).2.1); rintro e w29 ⟨v192, rfl, ho0, hb⟩; refine ⟨_, rfl, ?_⟩; have n0_ := Ax.mk (Kd.R_below (by exact Kd.R_to HO169.out) hb); have n1_ := Ax.mk (Kd.N_elder' (by exact Kd.N_to HO173.out) (Kd.N_base ho0) hb); have n2_ := Ax.mk (Kd.R_below (by exact Kd.R_to HO179.out) hb); have n3_ := Ax.mk (Kd.N_elder' (by exact Kd.N_to HO183.out) (Kd.N_base ho0) hb); have n4_ := Ax.mk (Kd.R_below (by exact Kd.R_to HO189.out) hb); have n5_ := Ax.mk (Kd.N_lower (Kd.N_mono (ok' := fun k_ => some k_ ≠ (.slice Ao13 y167.length co13 : Value).ownBlock ∧ some k_ ≠ (.slice Ao20 y177.length co20 : Value).ownBlock ∧ some k_ ≠ (.slice Ao28 y187.length co28 : Value).ownBlock ∧ k_ ≠ gb176 ∧ k_ ≠ gb186) ho0 (fun k_ hk_ => ⟨Or.elim hk_ (fun hs_ => hs_.1.1.1) (fun hn_ => (Kd.fresh' (Kd.R_lt (by exact Kd.R_to HO169.out)) k_ hn_)), Or.elim hk_ (fun hs_ => hs_.1.1.2.1) (fun hn_ => (Kd.fresh' (Kd.R_lt (by exact Kd.R_to HO179.out)) k_ hn_)), Or.elim hk_ (fun hs_ => hs_.2) (fun hn_ => (Kd.fresh' (Kd.R_lt (by exact Kd.R_to HO189.out)) k_ hn_)), Or.elim hk_ (fun hs_ => hs_.1.1.2.2) (fun hn_ => (Kd.freshB (g := gb176) (o := .cells #[.int .u64 t170, .slice Ao17 t171.length co17, .string t174] 66 (0, 0)) (bT BK176.out) k_ hn_)), Or.elim hk_ (fun hs_ => hs_.1.2) (fun hn_ => (Kd.freshB (g := gb186) (o := .cells #[.int .u64 t180, .slice Ao25 t181.length co25, .string t184] 66 (0, 0)) (bT BK186.out) k_ hn_))⟩)) (bS bA)); have n6_ := Ax.mk (bB (bT BK176.out) hb); have n7_ := Ax.mk (bB (bT BK186.out) hb); have n8_ := Ax.mk (bP bA hb); clear HO169; clear HO173; clear HO179; clear HO183; clear HO189; clear BK176; clear BK186; clear HB; have HO169 := n0_; have HO173 := n1_; have HO179 := n2_; have HO183 := n3_; have HO189 := n4_; have HO193 := n5_; have BK176 := n6_; have BK186 := n7_; have HB := n8_; clear n0_ n1_ n2_ n3_ n4_ n5_ n6_ n7_ n8_; (try clear hb); (try clear hb2); (try clear hk); (try clear hi); (try clear ho0)) | ((with_reducible refine gate_dst (N := 5) rfl ?_); (try (refine gate_guard (by rfl) ?_; dsimp only)); refine box_event ?hg (N := 5) ?hd (cs := #[.int .u64 0, .slice none 0 0, .string (⟨#[]⟩ : ByteArray)]) (t := 66) ?hr ?_; (case hd => rfl); (case hg => rfl); (case hr => first | (go_simp; done) | (go_simp; rfl)); intro gb196 hg w30 hbox hb; have n0_ := Ax.mk (Kd.R_below (by exact Kd.R_to HO169.out) hb); have n1_ := Ax.mk (Kd.N_below (Kd.N_elderB (by exact Kd.N_to HO173.out) gb196 (Nat.le_of_eq hg.symm)) hb); have n2_ := Ax.mk (Kd.R_below (by exact Kd.R_to HO179.out) hb); have n3_ := Ax.mk (Kd.N_below (Kd.N_elderB (by exact Kd.N_to HO183.out) gb196 (Nat.le_of_eq hg.symm)) hb); have n4_ := Ax.mk (Kd.R_below (by exact Kd.R_to HO189.out) hb); have n5_ := Ax.mk (Kd.N_below (Kd.N_elderB (by exact Kd.N_to HO193.out) gb196 (Nat.le_of_eq hg.symm)) hb); have n6_ := Ax.mk (bB (bT BK176.out) hb); have n7_ := Ax.mk (bB (bT BK186.out) hb); have n8_ := Ax.mk (bP bA hb); have n9_ := Ax.mk (hbox); have n10_ := Ax.mk ((ge_new hg : w.heap.size ≤ gb196)); have n11_ := n10_; have n12_ := Ax.mk ((ne_lt hg BK176.out : gb176 ≠ gb196)); have n13_ := Ax.mk ((ne_gt hg BK176.out : gb196 ≠ gb176)); have n14_ := Ax.mk ((ne_lt hg BK186.out : gb186 ≠ gb196)); have n15_ := Ax.mk ((ne_gt hg BK186.out : gb196 ≠ gb186)); clear HO169; clear HO173; clear HO179; clear HO183; clear HO189; clear HO193; clear BK176; clear BK186; clear HB; have HO169 := n0_; have HO173 := n1_; have HO179 := n2_; have HO183 := n3_; have HO189 := n4_; have HO193 := n5_; have BK176 := n6_; have BK186 := n7_; have HB := n8_; have BK196 := n9_; have GW196 := n10_; have GE196 := n11_; have NB176_196 := n12_; have NB196_176 := n13_; have NB186_196 := n14_; have NB196_186 := n15_; clear n0_ n1_ n2_ n3_ n4_ n5_ n6_ n7_ n8_ n9_ n10_ n11_ n12_ n13_ n14_ n15_; clear hb hbox hg; have hnb31 := NB196_176.out; have hnc31 := NB176_196.out; have hnb32 := NB196_186.out; have hnc32 := NB186_196.out; have hcz33_0 : w30.cell? ⟨gb196, 0, none⟩ = some (.int .u64 0) := (bC BK196.out 0).trans rfl; have hcz33_1 : w30.cell? ⟨gb196, 1, none⟩ = some (.slice none 0 0) := (bC BK196.out 1).trans rfl; have hcz33_2 : w30.cell? ⟨gb196, 2, none⟩ = some (.string (⟨#[]⟩ : ByteArray)) := (bC BK196.out 2).trans rfl; have hfz33_0 := bF BK196.out 0; have hfz33_1 := bF BK196.out 1; have hfz33_2 := bF BK196.out 2; obtain ⟨Ao34, co34, eo34⟩ := Kd.N_slice HO193.out; subst eo34) | ((with_reducible refine gate_callee (f := 36) rfl ?_); refine goesL_ (some 29) rfl rfl Tryd.func36 (by kernel_rfl) rfl #[.agg #[.int .u64 t190, .slice Ao34 t191.length co34, .string t194], .int .u64 6] rfl (by (try simp only [List.map_toArray, List.map_cons, List.map_nil]); first | done | rfl | (simp only [List.length_drop, List.length_take]; rfl) | (rw [wrap_sum2 (by assumption)]; rfl)) ?_; (with_reducible refine (journal_After.calls k t190 _ _ t191 t194 6 t197 _ ?side1 ?side2 A4.out).mono ?_); (case side1 => refine (Kd.N_reads' (e := 44) (base := w.heap.size) (ok := fun k_ => ((some k_ ≠ (.slice Ao13 y167.length co13 : Value).ownBlock ∧ (some k_ ≠ (.slice Ao20 y177.length co20 : Value).ownBlock ∧ (some k_ ≠ (.slice Ao28 y187.length co28 : Value).ownBlock ∧ (k_ ≠ gb176 ∧ k_ ≠ gb186)))) ∧ k_ ≠ gb196)) (n := t191.length) (c := co34) ?_).2.2; exact (by apply Kd.N_to; exact (Kd.N_mono (Kd.N_far (p := ⟨gb196, 2, none⟩) (Kd.N_far (p := ⟨gb196, 1, none⟩) (Kd.N_far (p := ⟨gb196, 0, none⟩) (Kd.N_mono HO193.out (fun k_ hk => (⟨hk, hk.2⟩ : _ ∧ k_ ≠ gb196))) (fun _ hk => hk.2) (.int .u64 t190)) (fun _ hk => hk.2) (.slice Ao34 t191.length co34)) (fun _ hk => hk.2) (.string t194)) (fun _ h_ => h_.1)))); (case side2 => exact (Kd.N_reads' HO193.out).2.1); rintro e w35 ⟨v198, rfl, ho0, hb⟩; refine ⟨_, rfl, ?_⟩; have n0_ := Ax.mk (Kd.R_elder' (by apply Kd.R_to; exact (Kd.R_mono (Kd.R_far (p := ⟨gb196, 2, none⟩) (Kd.R_far (p := ⟨gb196, 1, none⟩) (Kd.R_far (p := ⟨gb196, 0, none⟩) (Kd.R_types HO169.out BK196.out (by decide)) (fun _ hk => hk.2) (.int .u64 t190)) (fun _ hk => hk.2) (.slice Ao34 t191.length co34)) (fun _ hk => hk.2) (.string t194)) (fun _ h_ => h_.1))) (Kd.R_base ho0) hb); have n1_ := Ax.mk (Kd.N_elder' (by apply Kd.N_to; exact (Kd.N_mono (Kd.N_far (p := ⟨gb196, 2, none⟩) (Kd.N_far (p := ⟨gb196, 1, none⟩) (Kd.N_far (p := ⟨gb196, 0, none⟩) (Kd.N_mono HO173.out (fun k_ hk => (⟨hk, hk.2⟩ : _ ∧ k_ ≠ gb196))) (fun _ hk => hk.2) (.int .u64 t190)) (fun _ hk => hk.2) (.slice Ao34 t191.length co34)) (fun _ hk => hk.2) (.string t194)) (fun _ h_ => h_.1))) (Kd.R_base ho0) hb); have n2_ := Ax.mk (Kd.R_elder' (by apply Kd.R_to; exact (Kd.R_mono (Kd.R_far (p := ⟨gb196, 2, none⟩) (Kd.R_far (p := ⟨gb196, 1, none⟩) (Kd.R_far (p := ⟨gb196, 0, none⟩) (Kd.R_types HO179.out BK196.out (by decide)) (fun _ hk => hk.2) (.int .u64 t190)) (fun _ hk => hk.2) (.slice Ao34 t191.length co34)) (fun _ hk => hk.2) (.string t194)) (fun _ h_ => h_.1))) (Kd.R_base ho0) hb); have n3_ := Ax.mk (Kd.N_elder' (by apply Kd.N_to; exact (Kd.N_mono (Kd.N_far (p := ⟨gb196, 2, none⟩) (Kd.N_far (p := ⟨gb196, 1, none⟩) (Kd.N_far (p := ⟨gb196, 0, none⟩) (Kd.N_mono HO183.out (fun k_ hk => (⟨hk, hk.2⟩ : _ ∧ k_ ≠ gb196))) (fun _ hk => hk.2) (.int .u64 t190)) (fun _ hk => hk.2) (.slice Ao34 t191.length co34)) (fun _ hk => hk.2) (.string t194)) (fun _ h_ => h_.1))) (Kd.R_base ho0) hb); have n4_ := Ax.mk (Kd.R_elder' (by apply Kd.R_to; exact (Kd.R_mono (Kd.R_far (p := ⟨gb196, 2, none⟩) (Kd.R_far (p := ⟨gb196, 1, none⟩) (Kd.R_far (p := ⟨gb196, 0, none⟩) (Kd.R_types HO189.out BK196.out (by decide)) (fun _ hk => hk.2) (.int .u64 t190)) (fun _ hk => hk.2) (.slice Ao34 t191.length co34)) (fun _ hk => hk.2) (.string t194)) (fun _ h_ => h_.1))) (Kd.R_base ho0) hb); have n5_ := Ax.mk (Kd.N_elder' (by apply Kd.N_to; exact (Kd.N_mono (Kd.N_far (p := ⟨gb196, 2, none⟩) (Kd.N_far (p := ⟨gb196, 1, none⟩) (Kd.N_far (p := ⟨gb196, 0, none⟩) (Kd.N_mono HO193.out (fun k_ hk => (⟨hk, hk.2⟩ : _ ∧ k_ ≠ gb196))) (fun _ hk => hk.2) (.int .u64 t190)) (fun _ hk => hk.2) (.slice Ao34 t191.length co34)) (fun _ hk => hk.2) (.string t194)) (fun _ h_ => h_.1))) (Kd.R_base ho0) hb); have n6_ := Ax.mk (Kd.R_lower (Kd.R_new' (Kd.R_new' (Kd.R_new' ho0 (Kd.R_lt (by apply Kd.R_to; exact (Kd.R_mono (Kd.R_far (p := ⟨gb196, 2, none⟩) (Kd.R_far (p := ⟨gb196, 1, none⟩) (Kd.R_far (p := ⟨gb196, 0, none⟩) (Kd.R_types HO169.out BK196.out (by decide)) (fun _ hk => hk.2) (.int .u64 t190)) (fun _ hk => hk.2) (.slice Ao34 t191.length co34)) (fun _ hk => hk.2) (.string t194)) (fun _ h_ => h_.1))))) (Kd.R_lt (by apply Kd.R_to; exact (Kd.R_mono (Kd.R_far (p := ⟨gb196, 2, none⟩) (Kd.R_far (p := ⟨gb196, 1, none⟩) (Kd.R_far (p := ⟨gb196, 0, none⟩) (Kd.R_types HO179.out BK196.out (by decide)) (fun _ hk => hk.2) (.int .u64 t190)) (fun _ hk => hk.2) (.slice Ao34 t191.length co34)) (fun _ hk => hk.2) (.string t194)) (fun _ h_ => h_.1))))) (Kd.R_lt (by apply Kd.R_to; exact (Kd.R_mono (Kd.R_far (p := ⟨gb196, 2, none⟩) (Kd.R_far (p := ⟨gb196, 1, none⟩) (Kd.R_far (p := ⟨gb196, 0, none⟩) (Kd.R_types HO189.out BK196.out (by decide)) (fun _ hk => hk.2) (.int .u64 t190)) (fun _ hk => hk.2) (.slice Ao34 t191.length co34)) (fun _ hk => hk.2) (.string t194)) (fun _ h_ => h_.1))))) (bS bA)); have n7_ := Ax.mk (bB (g := gb176) (o := .cells #[.int .u64 t170, .slice Ao17 t171.length co17, .string t174] 66 (0, 0)) (by refine bT ?_; refine bR ?_ NB176_196.out _; refine bT ?_; refine bR ?_ NB176_196.out _; refine bT ?_; refine bR ?_ NB176_196.out _; exact bT BK176.out) hb); have n8_ := Ax.mk (bB (g := gb186) (o := .cells #[.int .u64 t180, .slice Ao25 t181.length co25, .string t184] 66 (0, 0)) (by refine bT ?_; refine bR ?_ NB186_196.out _; refine bT ?_; refine bR ?_ NB186_196.out _; refine bT ?_; refine bR ?_ NB186_196.out _; exact bT BK186.out) hb); have n9_ := Ax.mk (bB (g := gb196) (o := .cells #[.int .u64 t190, .slice Ao34 t191.length co34, .string t194] 66 (0, 0)) (by refine bT ?_; refine bU (cs := #[.int .u64 t190, .slice Ao34 t191.length co34, .string (⟨#[]⟩ : ByteArray)]) ?_ 2 _ rfl; refine bT ?_; refine bU (cs := #[.int .u64 t190, .slice none 0 0, .string (⟨#[]⟩ : ByteArray)]) ?_ 1 _ rfl; refine bT ?_; refine bU (cs := #[.int .u64 0, .slice none 0 0, .string (⟨#[]⟩ : ByteArray)]) ?_ 0 _ rfl; exact bT BK196.out) hb); have n10_ := Ax.mk (bP bA hb); clear HO169; clear HO173; clear HO179; clear HO183; clear HO189; clear HO193; clear BK176; clear BK186; clear BK196; clear HB; have HO169 := n0_; have HO173 := n1_; have HO179 := n2_; have HO183 := n3_; have HO189 := n4_; have HO193 := n5_; have HO199 := n6_; have BK176 := n7_; have BK186 := n8_; have BK196 := n9_; have HB := n10_; clear n0_ n1_ n2_ n3_ n4_ n5_ n6_ n7_ n8_ n9_ n10_; (try clear hb); (try clear hb2); (try clear hk); (try clear hi); (try clear ho0); have hcz36_0 : w35.cell? ⟨gb196, 0, none⟩ = some (.int .u64 t190) := (bC BK196.out 0).trans rfl; have hcz36_1 : w35.cell? ⟨gb196, 1, none⟩ = some (.slice Ao34 t191.length co34) := (bC BK196.out 1).trans rfl; have hcz36_2 : w35.cell? ⟨gb196, 2, none⟩ = some (.string t194) := (bC BK196.out 2).trans rfl; have hfz36_0 := bF BK196.out 0; have hfz36_1 := bF BK196.out 1; have hfz36_2 := bF BK196.out 2; obtain ⟨Ao37, co37, eo37⟩ := Kd.R_slice HO199.out; subst eo37; have p200 : 0 ≤ (0 : Int) := (by omega); have q200 : 0 < (t197.length : Int) := of_decide_eq_true (by first | (with_reducible assumption) | assumption); obtain ⟨ad200, e200, hx200_0, hx200_1, hx200_2, hx200_3, hx200_4⟩ := at_T24 (Kd.R_reads' HO199.out).2.2 0 p200 q200; cases e200; have qi200 : (0 < t197.length) = True := eq_true (by omega); (try rw [show ((0 : Int)).toNat = 0 from rfl] at hx200_0); (try rw [show 0 * 5 = 0 from rfl] at hx200_0); (try rw [Addr.add_zero'] at hx200_0); (try rw [show ((0 : Int)).toNat = 0 from rfl] at hx200_1); (try rw [show 0 * 5 = 0 from rfl] at hx200_1); (try rw [Addr.add_zero'] at hx200_1); (try rw [show ((0 : Int)).toNat = 0 from rfl] at hx200_2); (try rw [show 0 * 5 = 0 from rfl] at hx200_2); (try rw [Addr.add_zero'] at hx200_2); (try rw [show ((0 : Int)).toNat = 0 from rfl] at hx200_3); (try rw [show 0 * 5 = 0 from rfl] at hx200_3); (try rw [Addr.add_zero'] at hx200_3); (try rw [show ((0 : Int)).toNat = 0 from rfl] at hx200_4); (try rw [show 0 * 5 = 0 from rfl] at hx200_4); (try rw [Addr.add_zero'] at hx200_4); replace p200 := eq_true p200; replace q200 := eq_true q200))
       go_ret
       exact ⟨by first | rfl | (simp [errW_none, errW_some] <;> rfl) | (simp [*, errW_none, errW_some] <;> rfl), bA⟩
      ·rw [if_neg c10] at H
       exact absurd H (by simp)
     ·rw [if_neg c9] at H
      exact absurd H (by simp)
    ·rw [if_neg c8] at H
     exact absurd H (by simp)
   ·rw [if_neg c7] at H
    exact absurd H (by simp)
  ·rw [if_neg c6] at H
   exact absurd H (by simp)
 ·rw [if_neg c5] at H
  exact absurd H (by simp)
def isBehind (s : Int) (g : S44) : Bool := decide (g.f0 > s)
def step_Group_index.f (l : List S44) (s : Int) : Option Int := if l.length ≤ 1000000000000 then some (idxOf (isBehind s) l) else none
set_option maxHeartbeats 4000000 in
set_option maxRecDepth 100000 in
theorem step_Group_index.pred (x : S44) (A : Option Addr) (n c g : Nat) (s : Int) (v1 v2 : Value) (w : World) (hB : w.heap[g]? = some (.cells #[.int .u64 s, v1, v2] 66 (0, 0))) :
  Calls Tryd.prog 64 #[.agg #[.int .u64 x.f0, .slice A n c], .pointer (some ⟨g, 0, none⟩)] w fun e w' => e = .returned (.bool (isBehind s x)) ∧ Below w.heap.size w w' := by
 show Calls Tryd.prog 64 _ w fun e w' => e = .returned (.bool (decide (x.f0 > s))) ∧ Below w.heap.size w w'
 have hlt : g < w.heap.size := bL hB
 have hne : g ≠ w.heap.size := Nat.ne_of_lt hlt
 have hne2 : w.heap.size ≠ g := Nat.ne_of_gt hlt
 have HB := Ax.mk hB
 clear hB
 have hc : w.cell? ⟨g, 0, none⟩ = some (.int .u64 s) := (bC HB.out 0).trans rfl
 go_enter Tryd.func64, Tryd.ntmps64
 go_wp2
 go_ret
 exact ⟨rfl, below_alloc (Below.refl _ _) _⟩
set_option maxHeartbeats 4000000 in
set_option maxRecDepth 100000 in
theorem step_Group_index.calls (A0 : Option Addr) (c0 : Nat) (l0 : List S44) (s : Int) (r : Int) (w : World) (hr0 : Kd.C k44 w A0 l0.length l0) (_hc0 : l0.length ≤ c0) (h : step_Group_index.f l0 s = some r) {g : Nat} {v1 v2 : Value} (hB : w.heap[g]? = some (.cells #[.int .u64 s, v1, v2] 66 (0, 0))) :
  Calls Tryd.prog 63 #[.slice A0 l0.length c0, .func (.func 64) #[] #[.pointer (some ⟨g, 0, none⟩)]] w fun e w' => e = .returned (.int .i64 r) ∧ Below w.heap.size w w' := by
 unfold step_Group_index.f at h
 split at h
 case isFalse => cases h
 rename_i hn
 cases h
 have HR := Ax.mk hr0
 have HK := Ax.mk hB
 clear hr0 hB
 go_enter Tryd.func63, Tryd.ntmps63
 go_wp2
 go_loopw [5, 8] (fun _ v8 wr => ∃ j : Nat, v8 = .int .i64 (j : Int) ∧ j ≤ l0.length ∧ Ax ((l0.take j).any (isBehind s) = false) ∧ Ax (Below w.heap.size w wr)) (fun _ v8 _ => l0.length - (intOf v8).toNat)
 case atStart => exact ⟨0, rfl, Nat.zero_le _, ⟨by simp⟩, ⟨Below.refl _ _⟩⟩
 case round =>
  obtain ⟨j, rfl, hj, HA, HB⟩ := hrel
  by_cases hlt : j < l0.length
  ·obtain ⟨ad, A1, c1, rfl, hx0, hx1, hc1, hg1⟩ := at_T44 HR.out (j : Int) (by omega) (by omega)
   have HX := Ax.mk (show l0[j]? = some (rd_T44 l0 (j : Int)) by unfold rd_T44; simp [List.getD, hlt])
   simp only [Int.toNat_natCast] at hx0 hx1
   replace hx0 := (HB.out.cell (World.block_lt_of_cell? w _ hx0)).trans hx0
   replace hx1 := (HB.out.cell (World.block_lt_of_cell? w _ hx1)).trans hx1
   generalize rd_T44 l0 (j : Int) = x at HX hx0 hx1 hc1 hg1
   clear hg1
   have hp := fun W hW => step_Group_index.pred x A1 x.f1.length c1 g s v1 v2 W hW
   cases hq : isBehind s x with
   | true =>
    rw [hq] at hp
    have HQ := Ax.mk hq
    clear hq
    go_wp2_with (first | (go_at_call 64; fail))
    refine (hp _ (bB (by exact HK.out) HB.out)).mono ?_
    rintro e w1 ⟨rfl, hb1⟩
    go_wp2
    go_ret
    exact ⟨congrArg (fun z => Ending.returned (.int .i64 z)) (idx_hit (isBehind s) l0 j x HA.out HX.out HQ.out).symm, bP HB.out hb1⟩
   | false =>
    rw [hq] at hp
    have HQ := Ax.mk hq
    clear hq
    go_wp2_with (first | (go_at_call 64; fail))
    refine (hp _ (bB (by exact HK.out) HB.out)).mono ?_
    rintro e w1 ⟨rfl, hb1⟩
    have HB1 := Ax.mk (bP HB.out hb1)
    clear hb1
    go_wp2
    go_roundw
    case rel => exact ⟨j + 1, by go_num, by omega, ⟨any_take_succ (isBehind s) l0 j x HX.out HA.out HQ.out⟩, HB1⟩
    case measure => simp [intOf]; omega
  ·obtain rfl : j = l0.length := by omega
   go_wp2
   go_ret
   exact ⟨congrArg (fun z => Ending.returned (.int .i64 z)) (idx_miss (isBehind s) l0 (by have h := HA.out; rwa [List.take_length] at h)).symm, HB.out⟩
end Go.Proofs.YtboommbclbjlnaaDoor.Fn
end
section
namespace Go.Proofs.YtboommbclbjlnaaDoor.Fn
open Go.RowKit Go.Proofs.YtboommbclbjlnaaDoorW.PrintWords Go.Proofs.YtboommbclbjlnaaDoorW.PrintLast Go.Proofs.YtboommbclbjlnaaDoorW.PrintMore Go.Proofs.YtboommbclbjlnaaDoor.Lf
open List (setIfInBounds_toArray set_cons_zero set_cons_succ)
attribute [local go_sem] max2_int min2_int max_two min_two max_three min_three max_four min_four   -- for this text's walks alone
set_option linter.unusedVariables false
set_option linter.unusedSimpArgs false
mutual
def journal_Join.j1 : Nat → Int → Int → List (S44) → ByteArray → Int → List (S44) → ByteArray → Option ((List (S24)) × Int × Int)
 | 0, _, _, _, _, _, _, _ => none
 | k + 1, x7, x320000, x320001, x320002, x321000, x321001, x321002 => journal_Join.l0 k x7 ([] : List (S24)) x320001 (x320001.length : Int) 0 x320000 x320001 x320002 x321000 x321001 x321002
def journal_Join.l0 : Nat → Int → List (S24) → List (S44) → Int → Int → Int → List (S44) → ByteArray → Int → List (S44) → ByteArray → Option ((List (S24)) × Int × Int)
 | 0, _, _, _, _, _, _, _, _, _, _, _ => none
 | k + 1, x7, x9, x50, x51, x52, x320000, x320001, x320002, x321000, x321001, x321002 => if x52 < x51 then (if 0 ≤ x52 then (if x52 < (x50.length : Int) then (if x9.length + ((rd_T44 x50 x52).f1).length < 2932031007402 then (journal_Join.l0 k x7 (x9 ++ ((rd_T44 x50 x52).f1)) x50 x51 (wrap64 (x52 + 1)) x320000 x320001 x320002 x321000 x321001 x321002) else (none)) else (none)) else (none)) else ((journal_After.f k x321000 x321001 x321002 x320000).bind fun t329 => (if x9.length + t329.length < 2932031007402 then (some ((x9 ++ t329), x7, 0)) else (none)))
def journal_Join.j0 : Nat → Int → Int → Bool → Int → List (S44) → ByteArray → Int → List (S44) → ByteArray → Option ((List (S24)) × Int × Int)
 | 0, _, _, _, _, _, _, _, _, _ => none
 | k + 1, x7, x8, x18, x320000, x320001, x320002, x321000, x321001, x321002 => if x18 = true then (some (([] : List (S24)), 0, 2)) else (if x8 ≥ 0 then (if 0 ≤ (wrap64 ((x321001.length : Int) - 1)) then (if (wrap64 ((x321001.length : Int) - 1)) < (x321001.length : Int) then (journal_Join.j1 k ((rd_T44 x321001 (wrap64 ((x321001.length : Int) - 1))).f0) x320000 x320001 x320002 x321000 x321001 x321002) else (none)) else (none)) else (journal_Join.j1 k x7 x320000 x320001 x320002 x321000 x321001 x321002))
end
def journal_Join.f (k : Nat) (a0_0 : Int) (l0_1 : List (S44)) (a0_2 : ByteArray) (a1_0 : Int) (l1_1 : List (S44)) (a1_2 : ByteArray) : Option ((List (S24)) × Int × Int) := (step_Group_index.f l1_1 a0_0).bind fun t321 => (if (l0_1.length : Int) = 0 then (journal_Join.j0 k a0_0 t321 ((l0_1.length : Int) == 0) a0_0 l0_1 a0_2 a1_0 l1_1 a1_2) else (if t321 ≥ 0 then (if 0 ≤ t321 then (if t321 < (l1_1.length : Int) then (journal_Join.j0 k a0_0 t321 ((IntKind.u64.wrap (((rd_T44 l1_1 t321).f0) - 1)) != a0_0) a0_0 l0_1 a0_2 a1_0 l1_1 a1_2) else (none)) else (none)) else (journal_Join.j0 k a0_0 t321 false a0_0 l0_1 a0_2 a1_0 l1_1 a1_2)))
theorem journal_Join.mono_l : ∀ k, (∀ y0 y1 y2 y3 y4 y5 y6, LeO (journal_Join.j1 k y0 y1 y2 y3 y4 y5 y6) (journal_Join.j1 (k + 1) y0 y1 y2 y3 y4 y5 y6)) ∧ (∀ y0 y1 y2 y3 y4 y5 y6 y7 y8 y9 y10, LeO (journal_Join.l0 k y0 y1 y2 y3 y4 y5 y6 y7 y8 y9 y10) (journal_Join.l0 (k + 1) y0 y1 y2 y3 y4 y5 y6 y7 y8 y9 y10)) ∧ (∀ y0 y1 y2 y3 y4 y5 y6 y7 y8, LeO (journal_Join.j0 k y0 y1 y2 y3 y4 y5 y6 y7 y8) (journal_Join.j0 (k + 1) y0 y1 y2 y3 y4 y5 y6 y7 y8))
 | 0 => ⟨fun _ _ _ _ _ _ _ r h => by simp [journal_Join.j1] at h, fun _ _ _ _ _ _ _ _ _ _ _ r h => by simp [journal_Join.l0] at h, fun _ _ _ _ _ _ _ _ _ r h => by simp [journal_Join.j0] at h⟩
 | k + 1 => by
  obtain ⟨ih0, ih1, ih2⟩ := journal_Join.mono_l k
  refine ⟨?_, ?_, ?_⟩
  ·intro y0 y1 y2 y3 y4 y5 y6
   unfold journal_Join.j1
   repeat' first
   | (with_reducible exact ih0 _ _ _ _ _ _ _)
   | (with_reducible exact ih1 _ _ _ _ _ _ _ _ _ _ _)
   | (with_reducible exact ih2 _ _ _ _ _ _ _ _ _)
   | (with_reducible exact journal_After.mono _ _ _ _ _)
   | (with_reducible exact LeO.refl _)
   | (with_reducible exact LeO.none _)
   | (with_reducible refine LeO.ite ?_ ?_)
   | (with_reducible refine LeO.bind ?_ (fun _ => ?_))
   | exact ih0 _ _ _ _ _ _ _
   | exact ih1 _ _ _ _ _ _ _ _ _ _ _
   | exact ih2 _ _ _ _ _ _ _ _ _
   | exact journal_After.mono _ _ _ _ _
   | exact LeO.none _
   | refine LeO.ite ?_ ?_
   | refine LeO.bind ?_ (fun _ => ?_)
  ·intro y0 y1 y2 y3 y4 y5 y6 y7 y8 y9 y10
   unfold journal_Join.l0
   repeat' first
   | (with_reducible exact ih0 _ _ _ _ _ _ _)
   | (with_reducible exact ih1 _ _ _ _ _ _ _ _ _ _ _)
   | (with_reducible exact ih2 _ _ _ _ _ _ _ _ _)
   | (with_reducible exact journal_After.mono _ _ _ _ _)
   | (with_reducible exact LeO.refl _)
   | (with_reducible exact LeO.none _)
   | (with_reducible refine LeO.ite ?_ ?_)
   | (with_reducible refine LeO.bind ?_ (fun _ => ?_))
   | exact ih0 _ _ _ _ _ _ _
   | exact ih1 _ _ _ _ _ _ _ _ _ _ _
   | exact ih2 _ _ _ _ _ _ _ _ _
   | exact journal_After.mono _ _ _ _ _
   | exact LeO.none _
   | refine LeO.ite ?_ ?_
   | refine LeO.bind ?_ (fun _ => ?_)
  ·intro y0 y1 y2 y3 y4 y5 y6 y7 y8
   unfold journal_Join.j0
   repeat' first
   | (with_reducible exact ih0 _ _ _ _ _ _ _)
   | (with_reducible exact ih1 _ _ _ _ _ _ _ _ _ _ _)
   | (with_reducible exact ih2 _ _ _ _ _ _ _ _ _)
   | (with_reducible exact journal_After.mono _ _ _ _ _)
   | (with_reducible exact LeO.refl _)
   | (with_reducible exact LeO.none _)
   | (with_reducible refine LeO.ite ?_ ?_)
   | (with_reducible refine LeO.bind ?_ (fun _ => ?_))
   | exact ih0 _ _ _ _ _ _ _
   | exact ih1 _ _ _ _ _ _ _ _ _ _ _
   | exact ih2 _ _ _ _ _ _ _ _ _
   | exact journal_After.mono _ _ _ _ _
   | exact LeO.none _
   | refine LeO.ite ?_ ?_
   | refine LeO.bind ?_ (fun _ => ?_)
theorem journal_Join.mono : ∀ a0 a1 a2 a3 a4 a5 k, LeO (journal_Join.f k a0 a1 a2 a3 a4 a5) (journal_Join.f (k + 1) a0 a1 a2 a3 a4 a5) := by
 intro a0 a1 a2 a3 a4 a5 k
 obtain ⟨ih0, ih1, ih2⟩ := journal_Join.mono_l k
 unfold journal_Join.f
 repeat' first
   | (with_reducible exact ih0 _ _ _ _ _ _ _)
   | (with_reducible exact ih1 _ _ _ _ _ _ _ _ _ _ _)
   | (with_reducible exact ih2 _ _ _ _ _ _ _ _ _)
   | (with_reducible exact journal_After.mono _ _ _ _ _)
   | (with_reducible exact LeO.refl _)
   | (with_reducible exact LeO.none _)
   | (with_reducible refine LeO.ite ?_ ?_)
   | (with_reducible refine LeO.bind ?_ (fun _ => ?_))
   | exact ih0 _ _ _ _ _ _ _
   | exact ih1 _ _ _ _ _ _ _ _ _ _ _
   | exact ih2 _ _ _ _ _ _ _ _ _
   | exact journal_After.mono _ _ _ _ _
   | exact LeO.none _
   | refine LeO.ite ?_ ?_
   | refine LeO.bind ?_ (fun _ => ?_)
set_option maxHeartbeats 8000000 in
set_option maxRecDepth 100000 in
theorem journal_Join.calls (k : Nat) (a0_0 : Int) (A0_1 : Option Addr) (c0_1 : Nat) (l0_1 : List (S44)) (a0_2 : ByteArray) (a1_0 : Int) (A1_1 : Option Addr) (c1_1 : Nat) (l1_1 : List (S44)) (a1_2 : ByteArray) (r1 : List (S24)) (r2 : Int) (r3 : Int) (w : World) (hr0_1 : Kd.C k44 w A0_1 l0_1.length l0_1) (hc0_1 : l0_1.length ≤ c0_1) (hr1_1 : Kd.C k44 w A1_1 l1_1.length l1_1) (hc1_1 : l1_1.length ≤ c1_1) (h : journal_Join.f k a0_0 l0_1 a0_2 a1_0 l1_1 a1_2 = some (r1, r2, r3)) :
  Calls Tryd.prog 42 #[.agg #[.int .u64 a0_0, .slice A0_1 l0_1.length c0_1, .string a0_2], .agg #[.int .u64 a1_0, .slice A1_1 l1_1.length c1_1, .string a1_2]] w fun e w' => ∃ v0_ : Value, e = .returned (.tuple #[v0_, .int .u64 r2, .int .i64 r3]) ∧ Kd.R k24 24 w' w.heap.size (fun _ => True) v0_ r1 ∧ Below w.heap.size w w' := by
 have hu66 := Tryd.underlying66
 have hu44 := Tryd.underlying44
 have HR0_1 := Ax.mk hr0_1
 have HC0_1 := Ax.mk hc0_1
 clear hr0_1 hc0_1
 have HR1_1 := Ax.mk hr1_1
 have HC1_1 := Ax.mk hc1_1
 clear hr1_1 hc1_1
 have HB := Ax.mk (Below.refl w.heap.size w)
 have H : ((step_Group_index.f l1_1 a0_0).bind fun t321 => (if (l0_1.length : Int) = 0 then (journal_Join.j0 k a0_0 t321 ((l0_1.length : Int) == 0) a0_0 l0_1 a0_2 a1_0 l1_1 a1_2) else (if t321 ≥ 0 then (if 0 ≤ t321 then (if t321 < (l1_1.length : Int) then (journal_Join.j0 k a0_0 t321 ((IntKind.u64.wrap (((rd_T44 l1_1 t321).f0) - 1)) != a0_0) a0_0 l0_1 a0_2 a1_0 l1_1 a1_2) else (none)) else (none)) else (journal_Join.j0 k a0_0 t321 false a0_0 l0_1 a0_2 a1_0 l1_1 a1_2)))) = some (r1, r2, r3) := h
 clear h
 replace H := Option.bind_eq_some_iff.mp H
 obtain ⟨t321, A30, H⟩ := H
 replace H : (if (l0_1.length : Int) = 0 then (journal_Join.j0 k a0_0 t321 ((l0_1.length : Int) == 0) a0_0 l0_1 a0_2 a1_0 l1_1 a1_2) else (if t321 ≥ 0 then (if 0 ≤ t321 then (if t321 < (l1_1.length : Int) then (journal_Join.j0 k a0_0 t321 ((IntKind.u64.wrap (((rd_T44 l1_1 t321).f0) - 1)) != a0_0) a0_0 l0_1 a0_2 a1_0 l1_1 a1_2) else (none)) else (none)) else (journal_Join.j0 k a0_0 t321 false a0_0 l0_1 a0_2 a1_0 l1_1 a1_2))) = some (r1, r2, r3) := H
 have A3 := Ax.mk A30
 clear A30
 have HC4 := Ax.mk H
 clear H
 have hmf : ∀ (fn : Fn) (first cap : Array Value) (w : World), (Instr.makeFunc fn first cap).run Tryd.prog w = .ok (.func fn first cap) w := fun _ _ _ _ => rfl
 go_enter Tryd.func42, Tryd.ntmps42
 go_upto_block 0 with (first | ((with_reducible refine gate_dst (N := 2) rfl ?_); refine box_event ?hg (N := 2) ?hd (cs := #[.int .u64 a0_0, .slice A0_1 l0_1.length c0_1, .string a0_2]) (t := 66) ?hr ?_; (case hd => rfl); (case hg => rfl); (case hr => first | (go_simp; done) | (go_simp; rfl)); intro gb319 hg w5 hbox hb; have n0_ := Ax.mk (bP bA hb); have n1_ := Ax.mk (hbox); have n2_ := Ax.mk ((ge_new hg : w.heap.size ≤ gb319)); have n3_ := n2_; clear HB; have HB := n0_; have BK319 := n1_; have GW319 := n2_; have GE319 := n3_; clear n0_ n1_ n2_ n3_; clear hb hbox hg) | ((with_reducible refine gate_dst (N := 3) rfl ?_); refine box_event ?hg (N := 3) ?hd (cs := #[.int .u64 a1_0, .slice A1_1 l1_1.length c1_1, .string a1_2]) (t := 66) ?hr ?_; (case hd => rfl); (case hg => rfl); (case hr => first | (go_simp; done) | (go_simp; rfl)); intro gb320 hg w6 hbox hb; have n0_ := Ax.mk (bB (bT BK319.out) hb); have n1_ := Ax.mk (bP bA hb); have n2_ := Ax.mk (hbox); have n3_ := Ax.mk ((ge_new hg : w.heap.size ≤ gb320)); have n4_ := n3_; have n5_ := Ax.mk ((ne_lt hg BK319.out : gb319 ≠ gb320)); have n6_ := Ax.mk ((ne_gt hg BK319.out : gb320 ≠ gb319)); clear BK319; clear HB; have BK319 := n0_; have HB := n1_; have BK320 := n2_; have GW320 := n3_; have GE320 := n4_; have NB319_320 := n5_; have NB320_319 := n6_; clear n0_ n1_ n2_ n3_ n4_ n5_ n6_; clear hb hbox hg; have hnb7 := NB319_320.out; have hnc7 := NB320_319.out; have hcz8_0 : w6.cell? ⟨gb319, 0, none⟩ = some (.int .u64 a0_0) := (bC BK319.out 0).trans rfl; have hcz8_1 : w6.cell? ⟨gb319, 1, none⟩ = some (.slice A0_1 l0_1.length c0_1) := (bC BK319.out 1).trans rfl; have hcz8_2 : w6.cell? ⟨gb319, 2, none⟩ = some (.string a0_2) := (bC BK319.out 2).trans rfl; have hfz8_0 := bF BK319.out 0; have hfz8_1 := bF BK319.out 1; have hfz8_2 := bF BK319.out 2; have hcz9_0 : w6.cell? ⟨gb320, 0, none⟩ = some (.int .u64 a1_0) := (bC BK320.out 0).trans rfl; have hcz9_1 : w6.cell? ⟨gb320, 1, none⟩ = some (.slice A1_1 l1_1.length c1_1) := (bC BK320.out 1).trans rfl; have hcz9_2 : w6.cell? ⟨gb320, 2, none⟩ = some (.string a1_2) := (bC BK320.out 2).trans rfl; have hfz9_0 := bF BK320.out 0; have hfz9_1 := bF BK320.out 1; have hfz9_2 := bF BK320.out 2) | (go_at_call 63; (with_reducible refine (step_Group_index.calls _ _ l1_1 a0_0 t321 _ ?side1 ?side2 A3.out ?sideB (v1 := .slice A0_1 l0_1.length c0_1) (v2 := .string a0_2)).mono ?_); (case sideB => exact bT BK319.out); (case side1 => repeat (first | exact (Kd.C_below HR1_1.out HB.out) | (with_reducible refine Kd.C_alloc ?_ _) | (with_reducible refine Kd.C_drewN ?_ _) | (with_reducible refine Kd.C_drew ?_))); (case side2 => exact HC1_1.out); rintro e w10 ⟨rfl, hb⟩; have n0_ := Ax.mk (bB (bT BK319.out) hb); have n1_ := Ax.mk (bB (bT BK320.out) hb); have n2_ := Ax.mk (bP bA hb); clear BK319; clear BK320; clear HB; have BK319 := n0_; have BK320 := n1_; have HB := n2_; clear n0_ n1_ n2_; (try clear hb); (try clear hb2); (try clear hk); (try clear hi)))
 repeat (go_quiet (first | ((with_reducible refine gate_dst (N := 2) rfl ?_); refine box_event ?hg (N := 2) ?hd (cs := #[.int .u64 a0_0, .slice A0_1 l0_1.length c0_1, .string a0_2]) (t := 66) ?hr ?_; (case hd => rfl); (case hg => rfl); (case hr => first | (go_simp; done) | (go_simp; rfl)); intro gb319 hg w5 hbox hb; have n0_ := Ax.mk (bP bA hb); have n1_ := Ax.mk (hbox); have n2_ := Ax.mk ((ge_new hg : w.heap.size ≤ gb319)); have n3_ := n2_; clear HB; have HB := n0_; have BK319 := n1_; have GW319 := n2_; have GE319 := n3_; clear n0_ n1_ n2_ n3_; clear hb hbox hg) | ((with_reducible refine gate_dst (N := 3) rfl ?_); refine box_event ?hg (N := 3) ?hd (cs := #[.int .u64 a1_0, .slice A1_1 l1_1.length c1_1, .string a1_2]) (t := 66) ?hr ?_; (case hd => rfl); (case hg => rfl); (case hr => first | (go_simp; done) | (go_simp; rfl)); intro gb320 hg w6 hbox hb; have n0_ := Ax.mk (bB (bT BK319.out) hb); have n1_ := Ax.mk (bP bA hb); have n2_ := Ax.mk (hbox); have n3_ := Ax.mk ((ge_new hg : w.heap.size ≤ gb320)); have n4_ := n3_; have n5_ := Ax.mk ((ne_lt hg BK319.out : gb319 ≠ gb320)); have n6_ := Ax.mk ((ne_gt hg BK319.out : gb320 ≠ gb319)); clear BK319; clear HB; have BK319 := n0_; have HB := n1_; have BK320 := n2_; have GW320 := n3_; have GE320 := n4_; have NB319_320 := n5_; have NB320_319 := n6_; clear n0_ n1_ n2_ n3_ n4_ n5_ n6_; clear hb hbox hg; have hnb7 := NB319_320.out; have hnc7 := NB320_319.out; have hcz8_0 : w6.cell? ⟨gb319, 0, none⟩ = some (.int .u64 a0_0) := (bC BK319.out 0).trans rfl; have hcz8_1 : w6.cell? ⟨gb319, 1, none⟩ = some (.slice A0_1 l0_1.length c0_1) := (bC BK319.out 1).trans rfl; have hcz8_2 : w6.cell? ⟨gb319, 2, none⟩ = some (.string a0_2) := (bC BK319.out 2).trans rfl; have hfz8_0 := bF BK319.out 0; have hfz8_1 := bF BK319.out 1; have hfz8_2 := bF BK319.out 2; have hcz9_0 : w6.cell? ⟨gb320, 0, none⟩ = some (.int .u64 a1_0) := (bC BK320.out 0).trans rfl; have hcz9_1 : w6.cell? ⟨gb320, 1, none⟩ = some (.slice A1_1 l1_1.length c1_1) := (bC BK320.out 1).trans rfl; have hcz9_2 : w6.cell? ⟨gb320, 2, none⟩ = some (.string a1_2) := (bC BK320.out 2).trans rfl; have hfz9_0 := bF BK320.out 0; have hfz9_1 := bF BK320.out 1; have hfz9_2 := bF BK320.out 2) | (go_at_call 63; (with_reducible refine (step_Group_index.calls _ _ l1_1 a0_0 t321 _ ?side1 ?side2 A3.out ?sideB (v1 := .slice A0_1 l0_1.length c0_1) (v2 := .string a0_2)).mono ?_); (case sideB => exact bT BK319.out); (case side1 => repeat (first | exact (Kd.C_below HR1_1.out HB.out) | (with_reducible refine Kd.C_alloc ?_ _) | (with_reducible refine Kd.C_drewN ?_ _) | (with_reducible refine Kd.C_drew ?_))); (case side2 => exact HC1_1.out); rintro e w10 ⟨rfl, hb⟩; have n0_ := Ax.mk (bB (bT BK319.out) hb); have n1_ := Ax.mk (bB (bT BK320.out) hb); have n2_ := Ax.mk (bP bA hb); clear BK319; clear BK320; clear HB; have BK319 := n0_; have BK320 := n1_; have HB := n2_; clear n0_ n1_ n2_; (try clear hb); (try clear hb2); (try clear hk); (try clear hi))); go_upto_block 0 with (first | ((with_reducible refine gate_dst (N := 2) rfl ?_); refine box_event ?hg (N := 2) ?hd (cs := #[.int .u64 a0_0, .slice A0_1 l0_1.length c0_1, .string a0_2]) (t := 66) ?hr ?_; (case hd => rfl); (case hg => rfl); (case hr => first | (go_simp; done) | (go_simp; rfl)); intro gb319 hg w5 hbox hb; have n0_ := Ax.mk (bP bA hb); have n1_ := Ax.mk (hbox); have n2_ := Ax.mk ((ge_new hg : w.heap.size ≤ gb319)); have n3_ := n2_; clear HB; have HB := n0_; have BK319 := n1_; have GW319 := n2_; have GE319 := n3_; clear n0_ n1_ n2_ n3_; clear hb hbox hg) | ((with_reducible refine gate_dst (N := 3) rfl ?_); refine box_event ?hg (N := 3) ?hd (cs := #[.int .u64 a1_0, .slice A1_1 l1_1.length c1_1, .string a1_2]) (t := 66) ?hr ?_; (case hd => rfl); (case hg => rfl); (case hr => first | (go_simp; done) | (go_simp; rfl)); intro gb320 hg w6 hbox hb; have n0_ := Ax.mk (bB (bT BK319.out) hb); have n1_ := Ax.mk (bP bA hb); have n2_ := Ax.mk (hbox); have n3_ := Ax.mk ((ge_new hg : w.heap.size ≤ gb320)); have n4_ := n3_; have n5_ := Ax.mk ((ne_lt hg BK319.out : gb319 ≠ gb320)); have n6_ := Ax.mk ((ne_gt hg BK319.out : gb320 ≠ gb319)); clear BK319; clear HB; have BK319 := n0_; have HB := n1_; have BK320 := n2_; have GW320 := n3_; have GE320 := n4_; have NB319_320 := n5_; have NB320_319 := n6_; clear n0_ n1_ n2_ n3_ n4_ n5_ n6_; clear hb hbox hg; have hnb7 := NB319_320.out; have hnc7 := NB320_319.out; have hcz8_0 : w6.cell? ⟨gb319, 0, none⟩ = some (.int .u64 a0_0) := (bC BK319.out 0).trans rfl; have hcz8_1 : w6.cell? ⟨gb319, 1, none⟩ = some (.slice A0_1 l0_1.length c0_1) := (bC BK319.out 1).trans rfl; have hcz8_2 : w6.cell? ⟨gb319, 2, none⟩ = some (.string a0_2) := (bC BK319.out 2).trans rfl; have hfz8_0 := bF BK319.out 0; have hfz8_1 := bF BK319.out 1; have hfz8_2 := bF BK319.out 2; have hcz9_0 : w6.cell? ⟨gb320, 0, none⟩ = some (.int .u64 a1_0) := (bC BK320.out 0).trans rfl; have hcz9_1 : w6.cell? ⟨gb320, 1, none⟩ = some (.slice A1_1 l1_1.length c1_1) := (bC BK320.out 1).trans rfl; have hcz9_2 : w6.cell? ⟨gb320, 2, none⟩ = some (.string a1_2) := (bC BK320.out 2).trans rfl; have hfz9_0 := bF BK320.out 0; have hfz9_1 := bF BK320.out 1; have hfz9_2 := bF BK320.out 2) | (go_at_call 63; (with_reducible refine (step_Group_index.calls _ _ l1_1 a0_0 t321 _ ?side1 ?side2 A3.out ?sideB (v1 := .slice A0_1 l0_1.length c0_1) (v2 := .string a0_2)).mono ?_); (case sideB => exact bT BK319.out); (case side1 => repeat (first | exact (Kd.C_below HR1_1.out HB.out) | (with_reducible refine Kd.C_alloc ?_ _) | (with_reducible refine Kd.C_drewN ?_ _) | (with_reducible refine Kd.C_drew ?_))); (case side2 => exact HC1_1.out); rintro e w10 ⟨rfl, hb⟩; have n0_ := Ax.mk (bB (bT BK319.out) hb); have n1_ := Ax.mk (bB (bT BK320.out) hb); have n2_ := Ax.mk (bP bA hb); clear BK319; clear BK320; clear HB; have BK319 := n0_; have BK320 := n1_; have HB := n2_; clear n0_ n1_ n2_; (try clear hb); (try clear hb2); (try clear hk); (try clear hi))))
 (try simp only [Act.put, setIfInBounds_toArray, set_cons_zero, set_cons_succ])
 go_cut [7] (fun v7 wc => ∃ (kq : Nat) (x7_3 : Int), v7 = .int .u64 x7_3 ∧ Ax (journal_Join.j1 kq x7_3 a0_0 l0_1 a0_2 a1_0 l1_1 a1_2 = some (r1, r2, r3)) ∧ Ax (kq ≤ k) ∧ Ax (wc.heap[gb319]? = some (.cells #[.int .u64 a0_0, (.slice A0_1 l0_1.length c0_1), .string a0_2] 66 (0, 0))) ∧ Ax (wc.heap[gb320]? = some (.cells #[.int .u64 a1_0, (.slice A1_1 l1_1.length c1_1), .string a1_2] 66 (0, 0))) ∧ Ax (Below w.heap.size w wc))
 case first =>
  have H := HC4.out
  clear HC4
  have HC11 := Ax.mk H
  clear H
  have hnb12 := NB319_320.out
  have hnc12 := NB320_319.out
  have hcz13_0 : w10.cell? ⟨gb319, 0, none⟩ = some (.int .u64 a0_0) := (bC BK319.out 0).trans rfl
  have hcz13_1 : w10.cell? ⟨gb319, 1, none⟩ = some (.slice A0_1 l0_1.length c0_1) := (bC BK319.out 1).trans rfl
  have hcz13_2 : w10.cell? ⟨gb319, 2, none⟩ = some (.string a0_2) := (bC BK319.out 2).trans rfl
  have hfz13_0 := bF BK319.out 0
  have hfz13_1 := bF BK319.out 1
  have hfz13_2 := bF BK319.out 2
  go_upto_if 18 with (fail)
  repeat (go_quiet (fail); go_upto_if 18 with (fail))
  go_cut [18] (fun v18 wc => ∃ (kq : Nat) (x18_10 : Bool), v18 = .bool x18_10 ∧ Ax (journal_Join.j0 kq a0_0 t321 x18_10 a0_0 l0_1 a0_2 a1_0 l1_1 a1_2 = some (r1, r2, r3)) ∧ Ax (kq ≤ k) ∧ Ax (wc.heap[gb319]? = some (.cells #[.int .u64 a0_0, (.slice A0_1 l0_1.length c0_1), .string a0_2] 66 (0, 0))) ∧ Ax (wc.heap[gb320]? = some (.cells #[.int .u64 a1_0, (.slice A1_1 l1_1.length c1_1), .string a1_2] 66 (0, 0))) ∧ Ax (Below w.heap.size w wc))
  case first =>
   have H := HC11.out
   clear HC11
   by_cases c14 : (l0_1.length : Int) = 0
   ·rw [if_pos c14] at H
    have c14b0 : ((l0_1.length : Int) == 0) = true := beq_iff_eq.mpr c14
    have c14b1 : ((l0_1.length : Int) != 0) = false := bne_eq_false_iff_eq.mpr c14
    clear c14
    (first | rw [c14b0] | (simp only [i64_w, i32_w]; rw [c14b0]) | skip)
    have H' := Ax.mk H
    clear H
    go_wp2
    repeat (go_quiet (fail); try go_wp2)
    go_meet
    case rel => exact ⟨_, (((l0_1.length : Int) == 0)), (by first | rfl | (simp; done) | (simp [*]; done)), H', ⟨by first | omega | exact Nat.le_refl _⟩, ⟨by refine bT ?_; exact BK319.out⟩, ⟨by refine bT ?_; exact BK320.out⟩, ⟨bA⟩⟩
   ·rw [if_neg c14] at H
    have c14b0 : ((l0_1.length : Int) == 0) = false := beq_eq_false_iff_ne.mpr c14
    have c14b1 : ((l0_1.length : Int) != 0) = true := bne_iff_ne.mpr c14
    have c14b2 : ¬ (l0_1 = []) := fun h_ => c14 (by rw [h_]; rfl)
    (first | rw [c14b0] | (simp only [i64_w, i32_w]; rw [c14b0]) | skip)
    by_cases c15 : t321 ≥ 0
    ·rw [if_pos c15] at H
     have c15b0 : decide (0 ≤ t321) = true := decide_eq_true c15
     clear c15
     by_cases c16 : 0 ≤ t321
     ·rw [if_pos c16] at H
      have c16b0 : decide (0 ≤ t321) = true := decide_eq_true c16
      clear c16
      by_cases c17 : t321 < (l1_1.length : Int)
      ·rw [if_pos c17] at H
       have c17b0 : decide (t321 < (l1_1.length : Int)) = true := decide_eq_true c17
       clear c17
       have H' := Ax.mk H
       clear H
       have hnb18 := NB320_319.out
       have hnc18 := NB319_320.out
       have hcz19_0 : w10.cell? ⟨gb320, 0, none⟩ = some (.int .u64 a1_0) := (bC BK320.out 0).trans rfl
       have hcz19_1 : w10.cell? ⟨gb320, 1, none⟩ = some (.slice A1_1 l1_1.length c1_1) := (bC BK320.out 1).trans rfl
       have hcz19_2 : w10.cell? ⟨gb320, 2, none⟩ = some (.string a1_2) := (bC BK320.out 2).trans rfl
       have hfz19_0 := bF BK320.out 0
       have hfz19_1 := bF BK320.out 1
       have hfz19_2 := bF BK320.out 2
       have p322 : 0 ≤ (t321 : Int) := of_decide_eq_true (by first | (with_reducible assumption) | assumption)
       have q322 : t321 < (l1_1.length : Int) := of_decide_eq_true (by first | (with_reducible assumption) | assumption)
       obtain ⟨ad322, A322_1, c322_1, e322, hx322_0, hx322_1, hl322_1, hi322_1⟩ := at_T44 HR1_1.out t321 p322 q322
       cases e322
       replace hx322_0 := (HB.out.cell (World.block_lt_of_cell? w _ hx322_0)).trans hx322_0
       replace hx322_1 := (HB.out.cell (World.block_lt_of_cell? w _ hx322_1)).trans hx322_1
       have HR322_1 := Ax.mk hi322_1
       have HC322_1 := Ax.mk hl322_1
       clear hi322_1 hl322_1
       replace p322 := eq_true p322
       replace q322 := eq_true q322
       have hcz20_0 : w10.cell? ⟨gb319, 0, none⟩ = some (.int .u64 a0_0) := (bC BK319.out 0).trans rfl
       have hcz20_1 : w10.cell? ⟨gb319, 1, none⟩ = some (.slice A0_1 l0_1.length c0_1) := (bC BK319.out 1).trans rfl
       have hcz20_2 : w10.cell? ⟨gb319, 2, none⟩ = some (.string a0_2) := (bC BK319.out 2).trans rfl
       have hfz20_0 := bF BK319.out 0
       have hfz20_1 := bF BK319.out 1
       have hfz20_2 := bF BK319.out 2
       go_wp2
       repeat (go_quiet (fail); try go_wp2)
       go_meet
       case rel => exact ⟨_, (((IntKind.u64.wrap (((rd_T44 l1_1 t321).f0) - 1)) != a0_0)), (by first | rfl | (simp; done) | (simp [*]; done)), H', ⟨by first | omega | exact Nat.le_refl _⟩, ⟨by refine bT ?_; exact BK319.out⟩, ⟨by refine bT ?_; exact BK320.out⟩, ⟨bA⟩⟩
      ·rw [if_neg c17] at H
       exact absurd H (by simp)
     ·rw [if_neg c16] at H
      exact absurd H (by simp)
    ·rw [if_neg c15] at H
     have c15b0 : decide (0 ≤ t321) = false := decide_eq_false c15
     clear c15
     have H' := Ax.mk H
     clear H
     go_wp2
     repeat (go_quiet (fail); try go_wp2)
     go_meet
     case rel => exact ⟨_, (false), (by first | rfl | (simp; done) | (simp [*]; done)), H', ⟨by first | omega | exact Nat.le_refl _⟩, ⟨by refine bT ?_; exact BK319.out⟩, ⟨by refine bT ?_; exact BK320.out⟩, ⟨bA⟩⟩
  case rest =>
   clear HC11
   try clear c1
   try clear p2
   try clear c3
   try clear p3
   try clear q3
   try clear hx3
   try clear c4
   try clear c7
   try clear c12
   try clear c14
   try clear c14b0
   try clear c14b1
   try clear c14b2
   try clear c15
   try clear c15b0
   try clear c16
   try clear c16b0
   try clear c17
   try clear c17b0
   try clear c18
   try clear hcz13_0
   try clear hcz13_1
   try clear hcz13_2
   try clear hcz19_0
   try clear hcz19_1
   try clear hcz19_2
   try clear hcz20_0
   try clear hcz20_1
   try clear hcz20_2
   try clear hcz8_0
   try clear hcz8_1
   try clear hcz8_2
   try clear hcz9_0
   try clear hcz9_1
   try clear hcz9_2
   try clear hfz13_0
   try clear hfz13_1
   try clear hfz13_2
   try clear hfz19_0
   try clear hfz19_1
   try clear hfz19_2
   try clear hfz20_0
   try clear hfz20_1
   try clear hfz20_2
   try clear hfz8_0
   try clear hfz8_1
   try clear hfz8_2
   try clear hfz9_0
   try clear hfz9_1
   try clear hfz9_2
   try clear hx322_0
   try clear hx322_1
   try clear p322
   try clear q322
   obtain ⟨kq, x18_10, rfl, HA, HJ10, BK319, BK320, HB⟩ := hcut
   cases kq with
   | zero => exact absurd HA.out (by simp [journal_Join.j0])
   | succ kj10 =>
    have H := HA.out
    clear HA
    simp only [journal_Join.j0] at H
    by_cases c21 : x18_10 = true
    ·subst c21
     have H1 : (some (([] : List (S24)), 0, 2)) = some (r1, r2, r3) := by rw [if_pos rfl] at H; exact H
     clear H
     have H := H1
     clear H1
     simp only [Option.some.injEq, Prod.mk.injEq] at H
     obtain ⟨rfl, rfl, rfl⟩ := H
     go_wp2
     repeat (go_quiet (fail); try go_wp2)
     go_ret3
     exact ⟨_, by first | rfl | (simp [errW_none, errW_some] <;> rfl) | (simp [*, errW_none, errW_some] <;> rfl), by first | exact Kd.R_nil _ _ _ _ _ | exact Kd.N_nil _ _ _ _ _ | exact Kd.V_nil _ _ _ _ _ | exact Kd.Q_nil _ _ _ _ _ | exact Kd.S_nil _ _ _ _ _, bA⟩
    ·replace c21 := Bool.eq_false_iff.mpr c21
     subst c21
     have H1 : (if t321 ≥ 0 then (if 0 ≤ (wrap64 ((l1_1.length : Int) - 1)) then (if (wrap64 ((l1_1.length : Int) - 1)) < (l1_1.length : Int) then (journal_Join.j1 kj10 ((rd_T44 l1_1 (wrap64 ((l1_1.length : Int) - 1))).f0) a0_0 l0_1 a0_2 a1_0 l1_1 a1_2) else (none)) else (none)) else (journal_Join.j1 kj10 a0_0 a0_0 l0_1 a0_2 a1_0 l1_1 a1_2)) = some (r1, r2, r3) := by rw [if_neg (show ¬ (false = true) by decide)] at H; exact H
     clear H
     have H := H1
     clear H1
     by_cases c22 : t321 ≥ 0
     ·rw [if_pos c22] at H
      have c22b0 : decide (0 ≤ t321) = true := decide_eq_true c22
      clear c22
      obtain ⟨ji23, hji23⟩ : ∃ j_ : Int, (wrap64 ((l1_1.length : Int) - 1)) = j_ := ⟨_, rfl⟩
      replace H : (if 0 ≤ (ji23) then (if (ji23) < (l1_1.length : Int) then (journal_Join.j1 kj10 ((rd_T44 l1_1 (ji23)).f0) a0_0 l0_1 a0_2 a1_0 l1_1 a1_2) else (none)) else (none)) = some (r1, r2, r3) := by first | (rw [hji23] at H; exact H) | (simp only [hji23] at H ⊢; exact H)
      have hji23w : (IntKind.i64.wrap ((l1_1.length : Int) - 1)) = ji23 := (i64_w _).trans hji23
      by_cases c24 : 0 ≤ (ji23)
      ·rw [if_pos c24] at H
       have c24b0 : decide (0 ≤ (ji23)) = true := decide_eq_true c24
       clear c24
       by_cases c25 : (ji23) < (l1_1.length : Int)
       ·rw [if_pos c25] at H
        have c25b0 : decide ((ji23) < (l1_1.length : Int)) = true := decide_eq_true c25
        clear c25
        have H' := Ax.mk H
        clear H
        have hnb26 := NB320_319.out
        have hnc26 := NB319_320.out
        have hcz27_0 : wc.cell? ⟨gb320, 0, none⟩ = some (.int .u64 a1_0) := (bC BK320.out 0).trans rfl
        have hcz27_1 : wc.cell? ⟨gb320, 1, none⟩ = some (.slice A1_1 l1_1.length c1_1) := (bC BK320.out 1).trans rfl
        have hcz27_2 : wc.cell? ⟨gb320, 2, none⟩ = some (.string a1_2) := (bC BK320.out 2).trans rfl
        have hfz27_0 := bF BK320.out 0
        have hfz27_1 := bF BK320.out 1
        have hfz27_2 := bF BK320.out 2
        have p323 : 0 ≤ ((ji23) : Int) := of_decide_eq_true (by first | (with_reducible assumption) | assumption)
        have q323 : (ji23) < (l1_1.length : Int) := of_decide_eq_true (by first | (with_reducible assumption) | assumption)
        obtain ⟨ad323, A323_1, c323_1, e323, hx323_0, hx323_1, hl323_1, hi323_1⟩ := at_T44 HR1_1.out (ji23) p323 q323
        cases e323
        replace hx323_0 := (HB.out.cell (World.block_lt_of_cell? w _ hx323_0)).trans hx323_0
        replace hx323_1 := (HB.out.cell (World.block_lt_of_cell? w _ hx323_1)).trans hx323_1
        have HR323_1 := Ax.mk hi323_1
        have HC323_1 := Ax.mk hl323_1
        clear hi323_1 hl323_1
        replace p323 := eq_true p323
        replace q323 := eq_true q323
        go_wp2
        repeat (go_quiet (fail); try go_wp2)
        go_meet
        case rel => exact ⟨_, ((rd_T44 l1_1 (ji23)).f0), (by first | rfl | (simp; done) | (simp only [← hji23] <;> (first | rfl | simp)) | (simp [*]; done)), H', ⟨by have := HJ10.out; first | omega | exact Nat.le_refl _⟩, ⟨by refine bT ?_; exact BK319.out⟩, ⟨by refine bT ?_; exact BK320.out⟩, ⟨bA⟩⟩
       ·rw [if_neg c25] at H
        exact absurd H (by simp)
      ·rw [if_neg c24] at H
       exact absurd H (by simp)
     ·rw [if_neg c22] at H
      have c22b0 : decide (0 ≤ t321) = false := decide_eq_false c22
      clear c22
      have H' := Ax.mk H
      clear H
      go_wp2
      repeat (go_quiet (fail); try go_wp2)
      go_meet
      case rel => exact ⟨_, (a0_0), (by first | rfl | (simp; done) | (simp [*]; done)), H', ⟨by have := HJ10.out; first | omega | exact Nat.le_refl _⟩, ⟨by refine bT ?_; exact BK319.out⟩, ⟨by refine bT ?_; exact BK320.out⟩, ⟨bA⟩⟩
 case rest =>
  clear HC4
  try clear c1
  try clear c2
  try clear p2
  try clear c3
  try clear p3
  try clear q3
  try clear hx3
  try clear c4
  try clear p6
  try clear c7
  try clear c12
  try clear c14
  try clear c14b0
  try clear c14b1
  try clear c14b2
  try clear c15
  try clear c15b0
  try clear c16
  try clear c16b0
  try clear c17
  try clear c17b0
  try clear c18
  try clear c21
  try clear c22
  try clear c22b0
  try clear c24
  try clear c24b0
  try clear c25
  try clear c25b0
  try clear c26
  try clear hcz13_0
  try clear hcz13_1
  try clear hcz13_2
  try clear hcz19_0
  try clear hcz19_1
  try clear hcz19_2
  try clear hcz20_0
  try clear hcz20_1
  try clear hcz20_2
  try clear hcz27_0
  try clear hcz27_1
  try clear hcz27_2
  try clear hcz8_0
  try clear hcz8_1
  try clear hcz8_2
  try clear hcz9_0
  try clear hcz9_1
  try clear hcz9_2
  try clear hfz13_0
  try clear hfz13_1
  try clear hfz13_2
  try clear hfz19_0
  try clear hfz19_1
  try clear hfz19_2
  try clear hfz20_0
  try clear hfz20_1
  try clear hfz20_2
  try clear hfz27_0
  try clear hfz27_1
  try clear hfz27_2
  try clear hfz8_0
  try clear hfz8_1
  try clear hfz8_2
  try clear hfz9_0
  try clear hfz9_1
  try clear hfz9_2
  try clear hx322_0
  try clear hx322_1
  try clear hx323_0
  try clear hx323_1
  try clear p2
  try clear p3
  try clear p322
  try clear p323
  try clear q3
  try clear q322
  try clear q323
  obtain ⟨kq, x7_3, rfl, HA, HJ3, BK319, BK320, HB⟩ := hcut
  cases kq with
  | zero => exact absurd HA.out (by simp [journal_Join.j1])
  | succ kj3 =>
   have H := HA.out
   clear HA
   simp only [journal_Join.j1] at H
   have H' := Ax.mk H
   clear H
   have hnb28 := NB319_320.out
   have hnc28 := NB320_319.out
   have hcz29_0 : wc.cell? ⟨gb319, 0, none⟩ = some (.int .u64 a0_0) := (bC BK319.out 0).trans rfl
   have hcz29_1 : wc.cell? ⟨gb319, 1, none⟩ = some (.slice A0_1 l0_1.length c0_1) := (bC BK319.out 1).trans rfl
   have hcz29_2 : wc.cell? ⟨gb319, 2, none⟩ = some (.string a0_2) := (bC BK319.out 2).trans rfl
   have hfz29_0 := bF BK319.out 0
   have hfz29_1 := bF BK319.out 1
   have hfz29_2 := bF BK319.out 2
   go_wp2
   repeat (go_quiet (fail); try go_wp2)
   go_loopg [9, 52] kj3 (fun kq v9 v52 w' => ∃ (x9_2 : List (S24)) (x52_2 : Int), v52 = .int .i64 x52_2 ∧ Ax (journal_Join.l0 kq x7_3 x9_2 l0_1 (l0_1.length : Int) x52_2 a0_0 l0_1 a0_2 a1_0 l1_1 a1_2 = some (r1, r2, r3)) ∧ Ax (kq ≤ kj3) ∧ Ax (Kd.R k24 24 w' w.heap.size (fun _ => True) v9 x9_2) ∧ Ax (w'.heap[gb319]? = some (.cells #[.int .u64 a0_0, (.slice A0_1 l0_1.length c0_1), .string a0_2] 66 (0, 0))) ∧ Ax (w'.heap[gb320]? = some (.cells #[.int .u64 a1_0, (.slice A1_1 l1_1.length c1_1), .string a1_2] 66 (0, 0))) ∧ Ax (Below w.heap.size w w'))
   case atStart => exact ⟨(([] : List (S24))), (0), (by first | rfl | (simp; done) | (simp [*]; done)), H', ⟨Nat.le_refl _⟩, ⟨by first | exact Kd.R_nil _ _ _ _ _ | exact Kd.N_nil _ _ _ _ _ | exact Kd.V_nil _ _ _ _ _ | exact Kd.Q_nil _ _ _ _ _ | exact Kd.S_nil _ _ _ _ _⟩, ⟨by refine bT ?_; exact BK319.out⟩, ⟨by refine bT ?_; exact BK320.out⟩, ⟨bA⟩⟩
   case round =>
    clear H'
    try clear c1
    try clear c2
    try clear p2
    try clear c3
    try clear p3
    try clear q3
    try clear hx3
    try clear c4
    try clear p6
    try clear c7
    try clear c12
    try clear c14
    try clear c14b0
    try clear c14b1
    try clear c14b2
    try clear c15
    try clear c15b0
    try clear c16
    try clear c16b0
    try clear c17
    try clear c17b0
    try clear c18
    try clear c21
    try clear c22
    try clear c22b0
    try clear c24
    try clear c24b0
    try clear c25
    try clear c25b0
    try clear c26
    try clear c28
    try clear hcz13_0
    try clear hcz13_1
    try clear hcz13_2
    try clear hcz19_0
    try clear hcz19_1
    try clear hcz19_2
    try clear hcz20_0
    try clear hcz20_1
    try clear hcz20_2
    try clear hcz27_0
    try clear hcz27_1
    try clear hcz27_2
    try clear hcz29_0
    try clear hcz29_1
    try clear hcz29_2
    try clear hcz8_0
    try clear hcz8_1
    try clear hcz8_2
    try clear hcz9_0
    try clear hcz9_1
    try clear hcz9_2
    try clear hfz13_0
    try clear hfz13_1
    try clear hfz13_2
    try clear hfz19_0
    try clear hfz19_1
    try clear hfz19_2
    try clear hfz20_0
    try clear hfz20_1
    try clear hfz20_2
    try clear hfz27_0
    try clear hfz27_1
    try clear hfz27_2
    try clear hfz29_0
    try clear hfz29_1
    try clear hfz29_2
    try clear hfz8_0
    try clear hfz8_1
    try clear hfz8_2
    try clear hfz9_0
    try clear hfz9_1
    try clear hfz9_2
    try clear hx322_0
    try clear hx322_1
    try clear hx323_0
    try clear hx323_1
    try clear p2
    try clear p3
    try clear p322
    try clear p323
    try clear p6
    try clear q3
    try clear q322
    try clear q323
    obtain ⟨x9_2, x52_2, rfl, HA, HK2, HO_9, BK319, BK320, HB⟩ := hrel
    cases gk with
    | zero => exact absurd HA.out (by simp [journal_Join.l0])
    | succ k2 =>
     have H := HA.out
     clear HA
     simp only [journal_Join.l0] at H
     by_cases c30 : x52_2 < (l0_1.length : Int)
     ·rw [if_pos c30] at H
      have c30b0 : decide (x52_2 < (l0_1.length : Int)) = true := decide_eq_true c30
      clear c30
      by_cases c31 : 0 ≤ x52_2
      ·rw [if_pos c31] at H
       have c31b0 : decide (0 ≤ x52_2) = true := decide_eq_true c31
       clear c31
       by_cases c32 : x52_2 < (l0_1.length : Int)
       ·rw [if_pos c32] at H
        have c32b0 : decide (x52_2 < (l0_1.length : Int)) = true := decide_eq_true c32
        clear c32
        by_cases c33 : x9_2.length + ((rd_T44 l0_1 x52_2).f1).length < 2932031007402
        ·rw [if_pos c33] at H
         have LMc33 := Ax.mk c33
         clear c33
         obtain ⟨y326, hy326⟩ : ∃ y_ : List (S24), y_ = (x9_2 ++ ((rd_T44 l0_1 x52_2).f1)) := ⟨_, rfl⟩
         replace H : (journal_Join.l0 k2 x7_3 y326 l0_1 (l0_1.length : Int) (wrap64 (x52_2 + 1)) a0_0 l0_1 a0_2 a1_0 l1_1 a1_2) = some (r1, r2, r3) := by first | (rw [hy326]; with_reducible exact H) | (have H2_ := (Option.bind_some _ _).symm.trans H; rw [hy326]; with_reducible exact H2_) | (have H2_ := (Option.bind_some _ _).symm.trans H; with_reducible exact H2_) | with_reducible exact H | (rw [hy326]; exact H) | exact H
         have Ny326 := Ax.mk hy326
         clear hy326
         have H' := Ax.mk H
         clear H
         have p324 : 0 ≤ (x52_2 : Int) := of_decide_eq_true (by first | (with_reducible assumption) | assumption)
         have q324 : x52_2 < (l0_1.length : Int) := of_decide_eq_true (by first | (with_reducible assumption) | assumption)
         obtain ⟨ad324, A324_1, c324_1, e324, hx324_0, hx324_1, hl324_1, hi324_1⟩ := at_T44 HR0_1.out x52_2 p324 q324
         cases e324
         replace hx324_0 := (HB.out.cell (World.block_lt_of_cell? w _ hx324_0)).trans hx324_0
         replace hx324_1 := (HB.out.cell (World.block_lt_of_cell? w _ hx324_1)).trans hx324_1
         have HR324_1 := Ax.mk hi324_1
         have HC324_1 := Ax.mk hl324_1
         clear hi324_1 hl324_1
         replace p324 := eq_true p324
         replace q324 := eq_true q324
         go_wp2_with (first | ((with_reducible refine gate_dst (N := 11) rfl ?_); refine box_event ?hg (N := 11) ?hd (cs := #[.int .u64 0, .slice none 0 0]) (t := 44) ?hr ?_; (case hd => rfl); (case hg => rfl); (case hr => first | (go_simp; done) | (go_simp; rfl)); intro gb325 hg w34 hbox hb; have n0_ := Ax.mk (Kd.R_below (by exact Kd.R_to HO_9.out) hb); have n1_ := Ax.mk (bB (bT BK319.out) hb); have n2_ := Ax.mk (bB (bT BK320.out) hb); have n3_ := Ax.mk (bP bA hb); have n4_ := Ax.mk (hbox); have n5_ := Ax.mk ((ge_new hg : w.heap.size ≤ gb325)); have n6_ := n5_; have n7_ := Ax.mk ((ne_lt hg BK319.out : gb319 ≠ gb325)); have n8_ := Ax.mk ((ne_gt hg BK319.out : gb325 ≠ gb319)); have n9_ := Ax.mk ((ne_lt hg BK320.out : gb320 ≠ gb325)); have n10_ := Ax.mk ((ne_gt hg BK320.out : gb325 ≠ gb320)); clear HO_9; clear BK319; clear BK320; clear HB; have HO_9 := n0_; have BK319 := n1_; have BK320 := n2_; have HB := n3_; have BK325 := n4_; have GW325 := n5_; have GE325 := n6_; have NB319_325 := n7_; have NB325_319 := n8_; have NB320_325 := n9_; have NB325_320 := n10_; clear n0_ n1_ n2_ n3_ n4_ n5_ n6_ n7_ n8_ n9_ n10_; clear hb hbox hg; have hnb35 := NB325_319.out; have hnc35 := NB319_325.out; have hnb36 := NB325_320.out; have hnc36 := NB320_325.out; have hcz37_0 : w34.cell? ⟨gb325, 0, none⟩ = some (.int .u64 0) := (bC BK325.out 0).trans rfl; have hcz37_1 : w34.cell? ⟨gb325, 1, none⟩ = some (.slice none 0 0) := (bC BK325.out 1).trans rfl; have hfz37_0 := bF BK325.out 0; have hfz37_1 := bF BK325.out 1) | ((with_reducible refine gate_builtin (b := .append) (xs := #[.tmp 56, .tmp 58]) rfl ?_); at_builtin; refine Kd.R_append_rows k24 (w0 := w) w.heap.size rfl (.tmp 56) (.tmp 58) 29 24 (.agg #[(.int .i64 0), (.int .i64 0), (.int .i64 0), (.int .u64 0), (.string ⟨#[]⟩)]) 48 rfl Tryd.underlying29 info24 rfl (by decide) (by omega) u9 x9_2 ((rd_T44 l0_1 x52_2).f1) _ _ _ (fun _ => True) (fun _ => False) rfl rfl ?aO ?aR (fun _ _ h => h) (fun _ h => h.elim) ?aF ?aB ?aS ?aL ?_; (case aR => exact Kd.C_below HR324_1.out bA); (case aB => exact bA); (case aF => exact (fun _ _ => trivial)); (case aO => exact (by apply Kd.R_to; exact Kd.R_mono (Kd.R_far (p := ⟨gb325, 1, none⟩) (Kd.R_far (p := ⟨gb325, 0, none⟩) (Kd.R_types HO_9.out BK325.out (by decide)) (fun _ hk => hk.2) (.int .u64 ((rd_T44 l0_1 x52_2).f0))) (fun _ hk => hk.2) (.slice A324_1 ((rd_T44 l0_1 x52_2).f1).length c324_1)) (fun _ hk => trivial))); (case aS => exact (bS bA)); (case aL => have := LMc33.out; omega); intro v327 w38 ho hb hg hat; rw [← Ny326.out] at ho; have n0_ := Ax.mk (blk_grown (g := gb319) (o := .cells #[.int .u64 a0_0, .slice (some ad324) l0_1.length c0_1, .string a0_2] 66 (0, 0)) (by refine bT ?_; refine bR ?_ NB319_325.out _; refine bT ?_; refine bR ?_ NB319_325.out _; exact bT BK319.out) hg (Kd.R_ne HO_9.out BK319.out (by decide))); have n1_ := Ax.mk (blk_grown (g := gb320) (o := .cells #[.int .u64 a1_0, .slice A1_1 l1_1.length c1_1, .string a1_2] 66 (0, 0)) (by refine bT ?_; refine bR ?_ NB320_325.out _; refine bT ?_; refine bR ?_ NB320_325.out _; exact bT BK320.out) hg (Kd.R_ne HO_9.out BK320.out (by decide))); have n2_ := Ax.mk (blk_grown (g := gb325) (o := .cells #[.int .u64 ((rd_T44 l0_1 x52_2).f0), .slice A324_1 ((rd_T44 l0_1 x52_2).f1).length c324_1] 44 (0, 0)) (by refine bT ?_; refine bU (cs := #[.int .u64 ((rd_T44 l0_1 x52_2).f0), .slice none 0 0]) ?_ 1 _ rfl; refine bT ?_; refine bU (cs := #[.int .u64 0, .slice none 0 0]) ?_ 0 _ rfl; exact bT BK325.out) hg (Kd.R_ne HO_9.out BK325.out (by decide))); have n3_ := Ax.mk (hb); have n4_ := Ax.mk (ho); clear BK319; clear BK320; clear BK325; clear HB; clear HO_9; have BK319 := n0_; have BK320 := n1_; have BK325 := n2_; have HB := n3_; have HO328 := n4_; clear n0_ n1_ n2_ n3_ n4_; clear ho hb hg hat))
         repeat (go_quiet (first | ((with_reducible refine gate_dst (N := 11) rfl ?_); refine box_event ?hg (N := 11) ?hd (cs := #[.int .u64 0, .slice none 0 0]) (t := 44) ?hr ?_; (case hd => rfl); (case hg => rfl); (case hr => first | (go_simp; done) | (go_simp; rfl)); intro gb325 hg w34 hbox hb; have n0_ := Ax.mk (Kd.R_below (by exact Kd.R_to HO_9.out) hb); have n1_ := Ax.mk (bB (bT BK319.out) hb); have n2_ := Ax.mk (bB (bT BK320.out) hb); have n3_ := Ax.mk (bP bA hb); have n4_ := Ax.mk (hbox); have n5_ := Ax.mk ((ge_new hg : w.heap.size ≤ gb325)); have n6_ := n5_; have n7_ := Ax.mk ((ne_lt hg BK319.out : gb319 ≠ gb325)); have n8_ := Ax.mk ((ne_gt hg BK319.out : gb325 ≠ gb319)); have n9_ := Ax.mk ((ne_lt hg BK320.out : gb320 ≠ gb325)); have n10_ := Ax.mk ((ne_gt hg BK320.out : gb325 ≠ gb320)); clear HO_9; clear BK319; clear BK320; clear HB; have HO_9 := n0_; have BK319 := n1_; have BK320 := n2_; have HB := n3_; have BK325 := n4_; have GW325 := n5_; have GE325 := n6_; have NB319_325 := n7_; have NB325_319 := n8_; have NB320_325 := n9_; have NB325_320 := n10_; clear n0_ n1_ n2_ n3_ n4_ n5_ n6_ n7_ n8_ n9_ n10_; clear hb hbox hg; have hnb35 := NB325_319.out; have hnc35 := NB319_325.out; have hnb36 := NB325_320.out; have hnc36 := NB320_325.out; have hcz37_0 : w34.cell? ⟨gb325, 0, none⟩ = some (.int .u64 0) := (bC BK325.out 0).trans rfl; have hcz37_1 : w34.cell? ⟨gb325, 1, none⟩ = some (.slice none 0 0) := (bC BK325.out 1).trans rfl; have hfz37_0 := bF BK325.out 0; have hfz37_1 := bF BK325.out 1) | ((with_reducible refine gate_builtin (b := .append) (xs := #[.tmp 56, .tmp 58]) rfl ?_); at_builtin; refine Kd.R_append_rows k24 (w0 := w) w.heap.size rfl (.tmp 56) (.tmp 58) 29 24 (.agg #[(.int .i64 0), (.int .i64 0), (.int .i64 0), (.int .u64 0), (.string ⟨#[]⟩)]) 48 rfl Tryd.underlying29 info24 rfl (by decide) (by omega) u9 x9_2 ((rd_T44 l0_1 x52_2).f1) _ _ _ (fun _ => True) (fun _ => False) rfl rfl ?aO ?aR (fun _ _ h => h) (fun _ h => h.elim) ?aF ?aB ?aS ?aL ?_; (case aR => exact Kd.C_below HR324_1.out bA); (case aB => exact bA); (case aF => exact (fun _ _ => trivial)); (case aO => exact (by apply Kd.R_to; exact Kd.R_mono (Kd.R_far (p := ⟨gb325, 1, none⟩) (Kd.R_far (p := ⟨gb325, 0, none⟩) (Kd.R_types HO_9.out BK325.out (by decide)) (fun _ hk => hk.2) (.int .u64 ((rd_T44 l0_1 x52_2).f0))) (fun _ hk => hk.2) (.slice A324_1 ((rd_T44 l0_1 x52_2).f1).length c324_1)) (fun _ hk => trivial))); (case aS => exact (bS bA)); (case aL => have := LMc33.out; omega); intro v327 w38 ho hb hg hat; rw [← Ny326.out] at ho; have n0_ := Ax.mk (blk_grown (g := gb319) (o := .cells #[.int .u64 a0_0, .slice (some ad324) l0_1.length c0_1, .string a0_2] 66 (0, 0)) (by refine bT ?_; refine bR ?_ NB319_325.out _; refine bT ?_; refine bR ?_ NB319_325.out _; exact bT BK319.out) hg (Kd.R_ne HO_9.out BK319.out (by decide))); have n1_ := Ax.mk (blk_grown (g := gb320) (o := .cells #[.int .u64 a1_0, .slice A1_1 l1_1.length c1_1, .string a1_2] 66 (0, 0)) (by refine bT ?_; refine bR ?_ NB320_325.out _; refine bT ?_; refine bR ?_ NB320_325.out _; exact bT BK320.out) hg (Kd.R_ne HO_9.out BK320.out (by decide))); have n2_ := Ax.mk (blk_grown (g := gb325) (o := .cells #[.int .u64 ((rd_T44 l0_1 x52_2).f0), .slice A324_1 ((rd_T44 l0_1 x52_2).f1).length c324_1] 44 (0, 0)) (by refine bT ?_; refine bU (cs := #[.int .u64 ((rd_T44 l0_1 x52_2).f0), .slice none 0 0]) ?_ 1 _ rfl; refine bT ?_; refine bU (cs := #[.int .u64 0, .slice none 0 0]) ?_ 0 _ rfl; exact bT BK325.out) hg (Kd.R_ne HO_9.out BK325.out (by decide))); have n3_ := Ax.mk (hb); have n4_ := Ax.mk (ho); clear BK319; clear BK320; clear BK325; clear HB; clear HO_9; have BK319 := n0_; have BK320 := n1_; have BK325 := n2_; have HB := n3_; have HO328 := n4_; clear n0_ n1_ n2_ n3_ n4_; clear ho hb hg hat)); try go_wp2_with (first | ((with_reducible refine gate_dst (N := 11) rfl ?_); refine box_event ?hg (N := 11) ?hd (cs := #[.int .u64 0, .slice none 0 0]) (t := 44) ?hr ?_; (case hd => rfl); (case hg => rfl); (case hr => first | (go_simp; done) | (go_simp; rfl)); intro gb325 hg w34 hbox hb; have n0_ := Ax.mk (Kd.R_below (by exact Kd.R_to HO_9.out) hb); have n1_ := Ax.mk (bB (bT BK319.out) hb); have n2_ := Ax.mk (bB (bT BK320.out) hb); have n3_ := Ax.mk (bP bA hb); have n4_ := Ax.mk (hbox); have n5_ := Ax.mk ((ge_new hg : w.heap.size ≤ gb325)); have n6_ := n5_; have n7_ := Ax.mk ((ne_lt hg BK319.out : gb319 ≠ gb325)); have n8_ := Ax.mk ((ne_gt hg BK319.out : gb325 ≠ gb319)); have n9_ := Ax.mk ((ne_lt hg BK320.out : gb320 ≠ gb325)); have n10_ := Ax.mk ((ne_gt hg BK320.out : gb325 ≠ gb320)); clear HO_9; clear BK319; clear BK320; clear HB; have HO_9 := n0_; have BK319 := n1_; have BK320 := n2_; have HB := n3_; have BK325 := n4_; have GW325 := n5_; have GE325 := n6_; have NB319_325 := n7_; have NB325_319 := n8_; have NB320_325 := n9_; have NB325_320 := n10_; clear n0_ n1_ n2_ n3_ n4_ n5_ n6_ n7_ n8_ n9_ n10_; clear hb hbox hg; have hnb35 := NB325_319.out; have hnc35 := NB319_325.out; have hnb36 := NB325_320.out; have hnc36 := NB320_325.out; have hcz37_0 : w34.cell? ⟨gb325, 0, none⟩ = some (.int .u64 0) := (bC BK325.out 0).trans rfl; have hcz37_1 : w34.cell? ⟨gb325, 1, none⟩ = some (.slice none 0 0) := (bC BK325.out 1).trans rfl; have hfz37_0 := bF BK325.out 0; have hfz37_1 := bF BK325.out 1) | ((with_reducible refine gate_builtin (b := .append) (xs := #[.tmp 56, .tmp 58]) rfl ?_); at_builtin; refine Kd.R_append_rows k24 (w0 := w) w.heap.size rfl (.tmp 56) (.tmp 58) 29 24 (.agg #[(.int .i64 0), (.int .i64 0), (.int .i64 0), (.int .u64 0), (.string ⟨#[]⟩)]) 48 rfl Tryd.underlying29 info24 rfl (by decide) (by omega) u9 x9_2 ((rd_T44 l0_1 x52_2).f1) _ _ _ (fun _ => True) (fun _ => False) rfl rfl ?aO ?aR (fun _ _ h => h) (fun _ h => h.elim) ?aF ?aB ?aS ?aL ?_; (case aR => exact Kd.C_below HR324_1.out bA); (case aB => exact bA); (case aF => exact (fun _ _ => trivial)); (case aO => exact (by apply Kd.R_to; exact Kd.R_mono (Kd.R_far (p := ⟨gb325, 1, none⟩) (Kd.R_far (p := ⟨gb325, 0, none⟩) (Kd.R_types HO_9.out BK325.out (by decide)) (fun _ hk => hk.2) (.int .u64 ((rd_T44 l0_1 x52_2).f0))) (fun _ hk => hk.2) (.slice A324_1 ((rd_T44 l0_1 x52_2).f1).length c324_1)) (fun _ hk => trivial))); (case aS => exact (bS bA)); (case aL => have := LMc33.out; omega); intro v327 w38 ho hb hg hat; rw [← Ny326.out] at ho; have n0_ := Ax.mk (blk_grown (g := gb319) (o := .cells #[.int .u64 a0_0, .slice (some ad324) l0_1.length c0_1, .string a0_2] 66 (0, 0)) (by refine bT ?_; refine bR ?_ NB319_325.out _; refine bT ?_; refine bR ?_ NB319_325.out _; exact bT BK319.out) hg (Kd.R_ne HO_9.out BK319.out (by decide))); have n1_ := Ax.mk (blk_grown (g := gb320) (o := .cells #[.int .u64 a1_0, .slice A1_1 l1_1.length c1_1, .string a1_2] 66 (0, 0)) (by refine bT ?_; refine bR ?_ NB320_325.out _; refine bT ?_; refine bR ?_ NB320_325.out _; exact bT BK320.out) hg (Kd.R_ne HO_9.out BK320.out (by decide))); have n2_ := Ax.mk (blk_grown (g := gb325) (o := .cells #[.int .u64 ((rd_T44 l0_1 x52_2).f0), .slice A324_1 ((rd_T44 l0_1 x52_2).f1).length c324_1] 44 (0, 0)) (by refine bT ?_; refine bU (cs := #[.int .u64 ((rd_T44 l0_1 x52_2).f0), .slice none 0 0]) ?_ 1 _ rfl; refine bT ?_; refine bU (cs := #[.int .u64 0, .slice none 0 0]) ?_ 0 _ rfl; exact bT BK325.out) hg (Kd.R_ne HO_9.out BK325.out (by decide))); have n3_ := Ax.mk (hb); have n4_ := Ax.mk (ho); clear BK319; clear BK320; clear BK325; clear HB; clear HO_9; have BK319 := n0_; have BK320 := n1_; have BK325 := n2_; have HB := n3_; have HO328 := n4_; clear n0_ n1_ n2_ n3_ n4_; clear ho hb hg hat)))
         go_roundg k2
         case measure => have := HJ3.out; have := HK2.out; omega
         case rel => exact ⟨(y326), (wrap64 (x52_2 + 1)), (by first | rfl | (simp; done) | (simp [*]; done)), H', ⟨by have := HJ3.out; have := HK2.out; omega⟩, ⟨by apply Kd.R_to; exact HO328.out⟩, ⟨by refine bT ?_; exact BK319.out⟩, ⟨by refine bT ?_; exact BK320.out⟩, ⟨bA⟩⟩
        ·rw [if_neg c33] at H
         exact absurd H (by simp)
       ·rw [if_neg c32] at H
        exact absurd H (by simp)
      ·rw [if_neg c31] at H
       exact absurd H (by simp)
     ·rw [if_neg c30] at H
      have c30b0 : decide (x52_2 < (l0_1.length : Int)) = false := decide_eq_false c30
      clear c30
      replace H := Option.bind_eq_some_iff.mp H
      obtain ⟨t329, A390, H⟩ := H
      replace H : (if x9_2.length + t329.length < 2932031007402 then (some ((x9_2 ++ t329), x7_3, 0)) else (none)) = some (r1, r2, r3) := H
      have A39 := Ax.mk A390
      clear A390
      by_cases c40 : x9_2.length + t329.length < 2932031007402
      ·rw [if_pos c40] at H
       have LMc40 := Ax.mk c40
       clear c40
       obtain ⟨y332, hy332⟩ : ∃ y_ : List (S24), y_ = (x9_2 ++ t329) := ⟨_, rfl⟩
       replace H : (some (y332, x7_3, 0)) = some (r1, r2, r3) := by first | (rw [hy332]; with_reducible exact H) | (have H2_ := (Option.bind_some _ _).symm.trans H; rw [hy332]; with_reducible exact H2_) | (have H2_ := (Option.bind_some _ _).symm.trans H; with_reducible exact H2_) | with_reducible exact H | (rw [hy332]; exact H) | exact H
       have Ny332 := Ax.mk hy332
       clear hy332
       simp only [Option.some.injEq, Prod.mk.injEq] at H
       obtain ⟨rfl, rfl, rfl⟩ := H
       have hnb41 := NB320_319.out
       have hnc41 := NB319_320.out
       have hcz42_0 : wr.cell? ⟨gb320, 0, none⟩ = some (.int .u64 a1_0) := (bC BK320.out 0).trans rfl
       have hcz42_1 : wr.cell? ⟨gb320, 1, none⟩ = some (.slice A1_1 l1_1.length c1_1) := (bC BK320.out 1).trans rfl
       have hcz42_2 : wr.cell? ⟨gb320, 2, none⟩ = some (.string a1_2) := (bC BK320.out 2).trans rfl
       have hfz42_0 := bF BK320.out 0
       have hfz42_1 := bF BK320.out 1
       have hfz42_2 := bF BK320.out 2
       have hcz43_0 : wr.cell? ⟨gb319, 0, none⟩ = some (.int .u64 a0_0) := (bC BK319.out 0).trans rfl
       have hcz43_1 : wr.cell? ⟨gb319, 1, none⟩ = some (.slice A0_1 l0_1.length c0_1) := (bC BK319.out 1).trans rfl
       have hcz43_2 : wr.cell? ⟨gb319, 2, none⟩ = some (.string a0_2) := (bC BK319.out 2).trans rfl
       have hfz43_0 := bF BK319.out 0
       have hfz43_1 := bF BK319.out 1
       have hfz43_2 := bF BK319.out 2
       go_wp2_with (first | (go_at_call 36; (with_reducible refine (journal_After.calls k2 a1_0 _ _ l1_1 a1_2 a0_0 t329 _ ?side1 ?side2 A39.out).mono ?_); (case side1 => repeat (first | exact (Kd.C_below HR1_1.out HB.out) | (with_reducible refine Kd.C_alloc ?_ _) | (with_reducible refine Kd.C_drewN ?_ _) | (with_reducible refine Kd.C_drew ?_))); (case side2 => exact HC1_1.out); rintro e w44 ⟨v330, rfl, ho0, hb⟩; have n0_ := Ax.mk (Kd.R_elder' (by exact Kd.R_to HO_9.out) (Kd.R_base ho0) hb); have n1_ := Ax.mk (Kd.R_lower (Kd.R_new' ho0 (Kd.R_lt (by exact Kd.R_to HO_9.out))) (bS bA)); have n2_ := Ax.mk (bB (bT BK319.out) hb); have n3_ := Ax.mk (bB (bT BK320.out) hb); have n4_ := Ax.mk (bP bA hb); clear HO_9; clear BK319; clear BK320; clear HB; have HO_9 := n0_; have HO331 := n1_; have BK319 := n2_; have BK320 := n3_; have HB := n4_; clear n0_ n1_ n2_ n3_ n4_; (try clear hb); (try clear hb2); (try clear hk); (try clear hi); (try clear ho0); obtain ⟨Ao46, co46, eo46⟩ := Kd.R_slice HO331.out; subst eo46) | ((with_reducible refine gate_builtin (b := .append) (xs := #[.tmp 61, .tmp 65]) rfl ?_); at_builtin; refine Kd.R_append_rows k24 (w0 := w) w.heap.size rfl (.tmp 61) (.tmp 65) 29 24 (.agg #[(.int .i64 0), (.int .i64 0), (.int .i64 0), (.int .u64 0), (.string ⟨#[]⟩)]) 48 rfl Tryd.underlying29 info24 rfl (by decide) (by omega) u9 x9_2 t329 _ _ _ (fun k_ => some k_ ≠ (.slice Ao46 t329.length co46 : Value).ownBlock) (fun _ => False) rfl rfl ?aO ?aR (fun _ _ h => h) (fun _ h => h.elim) ?aF ?aB ?aS ?aL ?_; (case aR => repeat (first | exact (Kd.R_reads' HO331.out).2.2 | (with_reducible refine Kd.C_alloc ?_ _) | (with_reducible refine Kd.C_drewN ?_ _) | (with_reducible refine Kd.C_drew ?_))); (case aB => exact bA); (case aF => exact (fun k_ hk => Kd.fresh' (Kd.R_lt (by exact Kd.R_to HO331.out)) k_ hk)); (case aO => exact (by apply Kd.R_to; exact Kd.R_mono HO_9.out (fun _ hk => hk.2))); (case aS => exact (bS bA)); (case aL => have := LMc40.out; omega); intro v333 w45 ho hb hg hat; rw [← Ny332.out] at ho; have n0_ := Ax.mk (blk_grown (g := gb319) (o := .cells #[.int .u64 a0_0, .slice A0_1 l0_1.length c0_1, .string a0_2] 66 (0, 0)) (bT BK319.out) hg (Kd.R_ne HO_9.out BK319.out (by decide))); have n1_ := Ax.mk (blk_grown (g := gb320) (o := .cells #[.int .u64 a1_0, .slice A1_1 l1_1.length c1_1, .string a1_2] 66 (0, 0)) (bT BK320.out) hg (Kd.R_ne HO_9.out BK320.out (by decide))); have n2_ := Ax.mk (Kd.R_after (ok := (fun _ => True)) (by exact Kd.R_to HO331.out) hg hat); have n3_ := Ax.mk (hb); have n4_ := Ax.mk (ho); clear BK319; clear BK320; clear HO331; clear HB; clear HO_9; have BK319 := n0_; have BK320 := n1_; have HO331 := n2_; have HB := n3_; have HO334 := n4_; clear n0_ n1_ n2_ n3_ n4_; clear ho hb hg hat))
       repeat (go_quiet (first | (go_at_call 36; (with_reducible refine (journal_After.calls k2 a1_0 _ _ l1_1 a1_2 a0_0 t329 _ ?side1 ?side2 A39.out).mono ?_); (case side1 => repeat (first | exact (Kd.C_below HR1_1.out HB.out) | (with_reducible refine Kd.C_alloc ?_ _) | (with_reducible refine Kd.C_drewN ?_ _) | (with_reducible refine Kd.C_drew ?_))); (case side2 => exact HC1_1.out); rintro e w44 ⟨v330, rfl, ho0, hb⟩; have n0_ := Ax.mk (Kd.R_elder' (by exact Kd.R_to HO_9.out) (Kd.R_base ho0) hb); have n1_ := Ax.mk (Kd.R_lower (Kd.R_new' ho0 (Kd.R_lt (by exact Kd.R_to HO_9.out))) (bS bA)); have n2_ := Ax.mk (bB (bT BK319.out) hb); have n3_ := Ax.mk (bB (bT BK320.out) hb); have n4_ := Ax.mk (bP bA hb); clear HO_9; clear BK319; clear BK320; clear HB; have HO_9 := n0_; have HO331 := n1_; have BK319 := n2_; have BK320 := n3_; have HB := n4_; clear n0_ n1_ n2_ n3_ n4_; (try clear hb); (try clear hb2); (try clear hk); (try clear hi); (try clear ho0); obtain ⟨Ao46, co46, eo46⟩ := Kd.R_slice HO331.out; subst eo46) | ((with_reducible refine gate_builtin (b := .append) (xs := #[.tmp 61, .tmp 65]) rfl ?_); at_builtin; refine Kd.R_append_rows k24 (w0 := w) w.heap.size rfl (.tmp 61) (.tmp 65) 29 24 (.agg #[(.int .i64 0), (.int .i64 0), (.int .i64 0), (.int .u64 0), (.string ⟨#[]⟩)]) 48 rfl Tryd.underlying29 info24 rfl (by decide) (by omega) u9 x9_2 t329 _ _ _ (fun k_ => some k_ ≠ (.slice Ao46 t329.length co46 : Value).ownBlock) (fun _ => False) rfl rfl ?aO ?aR (fun _ _ h => h) (fun _ h => h.elim) ?aF ?aB ?aS ?aL ?_; (case aR => repeat (first | exact (Kd.R_reads' HO331.out).2.2 | (with_reducible refine Kd.C_alloc ?_ _) | (with_reducible refine Kd.C_drewN ?_ _) | (with_reducible refine Kd.C_drew ?_))); (case aB => exact bA); (case aF => exact (fun k_ hk => Kd.fresh' (Kd.R_lt (by exact Kd.R_to HO331.out)) k_ hk)); (case aO => exact (by apply Kd.R_to; exact Kd.R_mono HO_9.out (fun _ hk => hk.2))); (case aS => exact (bS bA)); (case aL => have := LMc40.out; omega); intro v333 w45 ho hb hg hat; rw [← Ny332.out] at ho; have n0_ := Ax.mk (blk_grown (g := gb319) (o := .cells #[.int .u64 a0_0, .slice A0_1 l0_1.length c0_1, .string a0_2] 66 (0, 0)) (bT BK319.out) hg (Kd.R_ne HO_9.out BK319.out (by decide))); have n1_ := Ax.mk (blk_grown (g := gb320) (o := .cells #[.int .u64 a1_0, .slice A1_1 l1_1.length c1_1, .string a1_2] 66 (0, 0)) (bT BK320.out) hg (Kd.R_ne HO_9.out BK320.out (by decide))); have n2_ := Ax.mk (Kd.R_after (ok := (fun _ => True)) (by exact Kd.R_to HO331.out) hg hat); have n3_ := Ax.mk (hb); have n4_ := Ax.mk (ho); clear BK319; clear BK320; clear HO331; clear HB; clear HO_9; have BK319 := n0_; have BK320 := n1_; have HO331 := n2_; have HB := n3_; have HO334 := n4_; clear n0_ n1_ n2_ n3_ n4_; clear ho hb hg hat)); try go_wp2_with (first | (go_at_call 36; (with_reducible refine (journal_After.calls k2 a1_0 _ _ l1_1 a1_2 a0_0 t329 _ ?side1 ?side2 A39.out).mono ?_); (case side1 => repeat (first | exact (Kd.C_below HR1_1.out HB.out) | (with_reducible refine Kd.C_alloc ?_ _) | (with_reducible refine Kd.C_drewN ?_ _) | (with_reducible refine Kd.C_drew ?_))); (case side2 => exact HC1_1.out); rintro e w44 ⟨v330, rfl, ho0, hb⟩; have n0_ := Ax.mk (Kd.R_elder' (by exact Kd.R_to HO_9.out) (Kd.R_base ho0) hb); have n1_ := Ax.mk (Kd.R_lower (Kd.R_new' ho0 (Kd.R_lt (by exact Kd.R_to HO_9.out))) (bS bA)); have n2_ := Ax.mk (bB (bT BK319.out) hb); have n3_ := Ax.mk (bB (bT BK320.out) hb); have n4_ := Ax.mk (bP bA hb); clear HO_9; clear BK319; clear BK320; clear HB; have HO_9 := n0_; have HO331 := n1_; have BK319 := n2_; have BK320 := n3_; have HB := n4_; clear n0_ n1_ n2_ n3_ n4_; (try clear hb); (try clear hb2); (try clear hk); (try clear hi); (try clear ho0); obtain ⟨Ao46, co46, eo46⟩ := Kd.R_slice HO331.out; subst eo46) | ((with_reducible refine gate_builtin (b := .append) (xs := #[.tmp 61, .tmp 65]) rfl ?_); at_builtin; refine Kd.R_append_rows k24 (w0 := w) w.heap.size rfl (.tmp 61) (.tmp 65) 29 24 (.agg #[(.int .i64 0), (.int .i64 0), (.int .i64 0), (.int .u64 0), (.string ⟨#[]⟩)]) 48 rfl Tryd.underlying29 info24 rfl (by decide) (by omega) u9 x9_2 t329 _ _ _ (fun k_ => some k_ ≠ (.slice Ao46 t329.length co46 : Value).ownBlock) (fun _ => False) rfl rfl ?aO ?aR (fun _ _ h => h) (fun _ h => h.elim) ?aF ?aB ?aS ?aL ?_; (case aR => repeat (first | exact (Kd.R_reads' HO331.out).2.2 | (with_reducible refine Kd.C_alloc ?_ _) | (with_reducible refine Kd.C_drewN ?_ _) | (with_reducible refine Kd.C_drew ?_))); (case aB => exact bA); (case aF => exact (fun k_ hk => Kd.fresh' (Kd.R_lt (by exact Kd.R_to HO331.out)) k_ hk)); (case aO => exact (by apply Kd.R_to; exact Kd.R_mono HO_9.out (fun _ hk => hk.2))); (case aS => exact (bS bA)); (case aL => have := LMc40.out; omega); intro v333 w45 ho hb hg hat; rw [← Ny332.out] at ho; have n0_ := Ax.mk (blk_grown (g := gb319) (o := .cells #[.int .u64 a0_0, .slice A0_1 l0_1.length c0_1, .string a0_2] 66 (0, 0)) (bT BK319.out) hg (Kd.R_ne HO_9.out BK319.out (by decide))); have n1_ := Ax.mk (blk_grown (g := gb320) (o := .cells #[.int .u64 a1_0, .slice A1_1 l1_1.length c1_1, .string a1_2] 66 (0, 0)) (bT BK320.out) hg (Kd.R_ne HO_9.out BK320.out (by decide))); have n2_ := Ax.mk (Kd.R_after (ok := (fun _ => True)) (by exact Kd.R_to HO331.out) hg hat); have n3_ := Ax.mk (hb); have n4_ := Ax.mk (ho); clear BK319; clear BK320; clear HO331; clear HB; clear HO_9; have BK319 := n0_; have BK320 := n1_; have HO331 := n2_; have HB := n3_; have HO334 := n4_; clear n0_ n1_ n2_ n3_ n4_; clear ho hb hg hat)))
       go_ret3
       exact ⟨_, by first | rfl | (simp [errW_none, errW_some] <;> rfl) | (simp [*, errW_none, errW_some] <;> rfl), by apply Kd.R_to; exact Kd.R_mono HO334.out (fun _ hk => trivial), bA⟩
      ·rw [if_neg c40] at H
       exact absurd H (by simp)
end Go.Proofs.YtboommbclbjlnaaDoor.Fn
end
section
namespace Go.Proofs.YtboommbclbjlnaaDoor.Fn
open Go.RowKit Go.Proofs.YtboommbclbjlnaaDoorW.PrintWords Go.Proofs.YtboommbclbjlnaaDoorW.PrintLast Go.Proofs.YtboommbclbjlnaaDoorW.PrintMore Go.Proofs.YtboommbclbjlnaaDoor.Lf
attribute [local go_sem] max2_int min2_int max_two min_two max_three min_three max_four min_four   -- for this text's walks alone
set_option linter.unusedVariables false
set_option linter.unusedSimpArgs false
mutual
def r13_Join.l0 : Nat → Int → Int → Int → List (S46) → ByteArray → Int → List (S46) → ByteArray → Option ((List (S26)) × Int × Int)
 | 0, _, _, _, _, _, _, _, _ => none
 | k + 1, x7, x8, x342000, x342001, x342002, x343000, x343001, x343002 => if x8 < (x343001.length : Int) then (if 0 ≤ x8 then (if ((rd_T46 x343001 x8).f0) ≤ x342000 then (r13_Join.l0 k x7 (wrap64 (x8 + 1)) x342000 x342001 x342002 x343000 x343001 x343002) else (if x7 = x342000 then (if ((rd_T46 x343001 x8).f0) = (IntKind.u64.wrap (x342000 + 1)) then (r13_Join.l0 k ((rd_T46 x343001 x8).f0) (wrap64 (x8 + 1)) x342000 x342001 x342002 x343000 x343001 x343002) else (some (([] : List (S26)), 0, 2))) else (r13_Join.l0 k ((rd_T46 x343001 x8).f0) (wrap64 (x8 + 1)) x342000 x342001 x342002 x343000 x343001 x343002))) else (none)) else (r13_Join.l1 k x7 ([] : List (S26)) 0 x342000 x342001 x342002 x343000 x343001 x343002)
def r13_Join.l1 : Nat → Int → List (S26) → Int → Int → List (S46) → ByteArray → Int → List (S46) → ByteArray → Option ((List (S26)) × Int × Int)
 | 0, _, _, _, _, _, _, _, _, _ => none
 | k + 1, x7, x9, x10, x342000, x342001, x342002, x343000, x343001, x343002 => if x10 < (x342001.length : Int) then (if 0 ≤ x10 then (if x9.length + ((rd_T46 x342001 x10).f1).length < 2932031007402 then (r13_Join.l1 k x7 (x9 ++ ((rd_T46 x342001 x10).f1)) (wrap64 (x10 + 1)) x342000 x342001 x342002 x343000 x343001 x343002) else (none)) else (none)) else ((r13_After.f k x343000 x343001 x343002 x342000).bind fun t351 => (if x9.length + t351.length < 2932031007402 then (some ((x9 ++ t351), x7, 0)) else (none)))
end
def r13_Join.f (k : Nat) (a0_0 : Int) (l0_1 : List (S46)) (a0_2 : ByteArray) (a1_0 : Int) (l1_1 : List (S46)) (a1_2 : ByteArray) : Option ((List (S26)) × Int × Int) := if (l0_1.length : Int) = 0 then (some (([] : List (S26)), 0, 2)) else (r13_Join.l0 k a0_0 0 a0_0 l0_1 a0_2 a1_0 l1_1 a1_2)
theorem r13_Join.mono_l : ∀ k, (∀ y0 y1 y2 y3 y4 y5 y6 y7, LeO (r13_Join.l0 k y0 y1 y2 y3 y4 y5 y6 y7) (r13_Join.l0 (k + 1) y0 y1 y2 y3 y4 y5 y6 y7)) ∧ (∀ y0 y1 y2 y3 y4 y5 y6 y7 y8, LeO (r13_Join.l1 k y0 y1 y2 y3 y4 y5 y6 y7 y8) (r13_Join.l1 (k + 1) y0 y1 y2 y3 y4 y5 y6 y7 y8))
 | 0 => ⟨fun _ _ _ _ _ _ _ _ r h => by simp [r13_Join.l0] at h, fun _ _ _ _ _ _ _ _ _ r h => by simp [r13_Join.l1] at h⟩
 | k + 1 => by
  obtain ⟨ih0, ih1⟩ := r13_Join.mono_l k
  refine ⟨?_, ?_⟩
  ·intro y0 y1 y2 y3 y4 y5 y6 y7
   unfold r13_Join.l0
   repeat' first
   | (with_reducible exact ih0 _ _ _ _ _ _ _ _)
   | (with_reducible exact ih1 _ _ _ _ _ _ _ _ _)
   | (with_reducible exact r13_After.mono _ _ _ _ _)
   | (with_reducible exact LeO.refl _)
   | (with_reducible exact LeO.none _)
   | (with_reducible refine LeO.ite ?_ ?_)
   | (with_reducible refine LeO.bind ?_ (fun _ => ?_))
   | exact ih0 _ _ _ _ _ _ _ _
   | exact ih1 _ _ _ _ _ _ _ _ _
   | exact r13_After.mono _ _ _ _ _
   | exact LeO.none _
   | refine LeO.ite ?_ ?_
   | refine LeO.bind ?_ (fun _ => ?_)
  ·intro y0 y1 y2 y3 y4 y5 y6 y7 y8
   unfold r13_Join.l1
   repeat' first
   | (with_reducible exact ih0 _ _ _ _ _ _ _ _)
   | (with_reducible exact ih1 _ _ _ _ _ _ _ _ _)
   | (with_reducible exact r13_After.mono _ _ _ _ _)
   | (with_reducible exact LeO.refl _)
   | (with_reducible exact LeO.none _)
   | (with_reducible refine LeO.ite ?_ ?_)
   | (with_reducible refine LeO.bind ?_ (fun _ => ?_))
   | exact ih0 _ _ _ _ _ _ _ _
   | exact ih1 _ _ _ _ _ _ _ _ _
   | exact r13_After.mono _ _ _ _ _
   | exact LeO.none _
   | refine LeO.ite ?_ ?_
   | refine LeO.bind ?_ (fun _ => ?_)
theorem r13_Join.mono : ∀ a0 a1 a2 a3 a4 a5 k, LeO (r13_Join.f k a0 a1 a2 a3 a4 a5) (r13_Join.f (k + 1) a0 a1 a2 a3 a4 a5) := by
 intro a0 a1 a2 a3 a4 a5 k
 obtain ⟨ih0, ih1⟩ := r13_Join.mono_l k
 unfold r13_Join.f
 repeat' first
   | (with_reducible exact ih0 _ _ _ _ _ _ _ _)
   | (with_reducible exact ih1 _ _ _ _ _ _ _ _ _)
   | (with_reducible exact r13_After.mono _ _ _ _ _)
   | (with_reducible exact LeO.refl _)
   | (with_reducible exact LeO.none _)
   | (with_reducible refine LeO.ite ?_ ?_)
   | (with_reducible refine LeO.bind ?_ (fun _ => ?_))
   | exact ih0 _ _ _ _ _ _ _ _
   | exact ih1 _ _ _ _ _ _ _ _ _
   | exact r13_After.mono _ _ _ _ _
   | exact LeO.none _
   | refine LeO.ite ?_ ?_
   | refine LeO.bind ?_ (fun _ => ?_)
end Go.Proofs.YtboommbclbjlnaaDoor.Fn
end
