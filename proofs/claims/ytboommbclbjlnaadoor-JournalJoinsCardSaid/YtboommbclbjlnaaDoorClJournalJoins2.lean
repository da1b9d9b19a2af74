-- Packed by pack.py, a program of this session, out of texts of this claim.
import Derived.Test.YtboommbclbjlnaaDoorClJournalJoins1
import Derived.Lib.SliceRun
import Derived.Lib.Walk
import Derived.Deep.LoopGhost
section
-- Written by printx.py, a program of this session over the kit's print: each Go function as a plain Lean function, and that the Go code computes it.
namespace Go.Proofs.YtboommbclbjlnaaDoor.Fn
open Go.RowKit Go.Proofs.YtboommbclbjlnaaDoorW.PrintWords Go.Proofs.YtboommbclbjlnaaDoorW.PrintLast Go.Proofs.YtboommbclbjlnaaDoorW.PrintMore Go.Proofs.YtboommbclbjlnaaDoor.Lf
open List (setIfInBounds_toArray set_cons_zero set_cons_succ)
attribute [local go_sem] max2_int min2_int max_two min_two max_three min_three max_four min_four   -- for this text's walks alone
set_option linter.unusedVariables false
set_option linter.unusedSimpArgs false
def journal_closed.f (k : Nat) (a0_0 : Int) (l0_1 : List (S24)) : Option (ByteArray × Int) := (step_Step_contains.f l0_1).bind fun t122 => (if t122 = true then (some ((⟨#[]⟩ : ByteArray), 1)) else ((step_Step.f l0_1).bind fun t123 => ((some (([(⟨8, 0, 0, a0_0, (⟨#[]⟩ : ByteArray)⟩ : S24)] : List (S24)) : List (S24))).bind fun y126 => (if t123.length + y126.length < 2932031007402 then ((journal_put.f k (t123 ++ y126)).bind fun bt132 => (some (bt132.1, bt132.2))) else (none)))))
theorem journal_closed.mono : ∀ a0 a1 k, LeO (journal_closed.f k a0 a1) (journal_closed.f (k + 1) a0 a1) := by
 intro a0 a1 k
 unfold journal_closed.f
 repeat' first
   | (with_reducible exact journal_put.mono _ _)
   | (with_reducible exact LeO.refl _)
   | (with_reducible exact LeO.none _)
   | (with_reducible refine LeO.ite ?_ ?_)
   | (with_reducible refine LeO.bind ?_ (fun _ => ?_))
   | exact journal_put.mono _ _
   | exact LeO.none _
   | refine LeO.ite ?_ ?_
   | refine LeO.bind ?_ (fun _ => ?_)
def journal_closed.T3 : Bool × List (List Nat × List Nat) := (true, [([], []), ([0], [0]), ([1], [1]), ([], []), ([3], [3]), ([4], [4]), ([5], [5]), ([2, 6, 2], [2, 6]), ([7, 7], [7]), ([8], [8]), ([8], [8]), ([9, 8, 0, 1, 2, 3, 4, 5, 6, 7, 8, 9, 10], [9]), ([10, 11, 0, 1, 2, 3, 4, 5, 6, 7, 8, 9, 10, 11], [10])])
def journal_closed.B3 : List Nat := [0, 1, 3, 0, 8, 24, 56, 127, 255, 511, 511, 2047, 4095]
theorem journal_closed.tab3 : rtab .any (opsOf Tryd.f74 3) = journal_closed.T3 := by kernel_rfl
theorem journal_closed.bits3 : waitsOk journal_closed.T3.2 journal_closed.B3 = true := by kernel_rfl
set_option maxHeartbeats 8000000 in
set_option maxRecDepth 100000 in
theorem journal_closed.calls (k : Nat) (a0_0 : Int) (A0_1 : Option Addr) (c0_1 : Nat) (l0_1 : List (S24)) (r1 : ByteArray) (r2 : Int) (w : World) (hr0_1 : Kd.C k24 w A0_1 l0_1.length l0_1) (hc0_1 : l0_1.length ≤ c0_1) (h : journal_closed.f k a0_0 l0_1 = some (r1, r2)) (HT : Tabs w) :
  Calls Tryd.prog 74 #[.agg #[.int .u64 a0_0, .slice A0_1 l0_1.length c0_1]] w fun e w' => e = .returned (.tuple #[.string r1, .int .i64 r2]) ∧ Below w.heap.size w w' := by
 have hu44 := Tryd.underlying44
 have hu24 := Tryd.underlying24
 have HR0_1 := Ax.mk hr0_1
 have HC0_1 := Ax.mk hc0_1
 clear hr0_1 hc0_1
 have HB := Ax.mk (Below.refl w.heap.size w)
 have H : ((step_Step_contains.f l0_1).bind fun t122 => (if t122 = true then (some ((⟨#[]⟩ : ByteArray), 1)) else ((step_Step.f l0_1).bind fun t123 => ((some (([(⟨8, 0, 0, a0_0, (⟨#[]⟩ : ByteArray)⟩ : S24)] : List (S24)) : List (S24))).bind fun y126 => (if t123.length + y126.length < 2932031007402 then ((journal_put.f k (t123 ++ y126)).bind fun bt132 => (some (bt132.1, bt132.2))) else (none)))))) = some (r1, r2) := h
 clear h
 replace H := Option.bind_eq_some_iff.mp H
 obtain ⟨t122, A20, H⟩ := H
 replace H : (if t122 = true then (some ((⟨#[]⟩ : ByteArray), 1)) else ((step_Step.f l0_1).bind fun t123 => ((some (([(⟨8, 0, 0, a0_0, (⟨#[]⟩ : ByteArray)⟩ : S24)] : List (S24)) : List (S24))).bind fun y126 => (if t123.length + y126.length < 2932031007402 then ((journal_put.f k (t123 ++ y126)).bind fun bt132 => (some (bt132.1, bt132.2))) else (none))))) = some (r1, r2) := H
 have A2 := Ax.mk A20
 clear A20
 by_cases c3 : t122 = true
 ·subst c3
  have H1 : (some ((⟨#[]⟩ : ByteArray), 1)) = some (r1, r2) := by rw [if_pos rfl] at H; exact H
  clear H
  have H := H1
  clear H1
  simp only [Option.some.injEq, Prod.mk.injEq] at H
  obtain ⟨rfl, rfl⟩ := H
  go_enter Tryd.func74, Tryd.ntmps74
  go_wp2_with (first | ((with_reducible refine gate_dst (N := 1) rfl ?_); refine box_event ?hg (N := 1) ?hd (cs := #[.int .u64 a0_0, .slice A0_1 l0_1.length c0_1]) (t := 44) ?hr ?_; (case hd => rfl); (case hg => rfl); (case hr => first | (go_simp; done) | (go_simp; rfl)); intro gb121 hg w4 hbox hb; have n0_ := Ax.mk (bP bA hb); have n1_ := Ax.mk (hbox); have n2_ := Ax.mk ((ge_new hg : w.heap.size ≤ gb121)); have n3_ := n2_; clear HB; have HB := n0_; have BK121 := n1_; have GW121 := n2_; have GE121 := n3_; clear n0_ n1_ n2_ n3_; clear hb hbox hg; have hcz5_0 : w4.cell? ⟨gb121, 0, none⟩ = some (.int .u64 a0_0) := (bC BK121.out 0).trans rfl; have hcz5_1 : w4.cell? ⟨gb121, 1, none⟩ = some (.slice A0_1 l0_1.length c0_1) := (bC BK121.out 1).trans rfl; have hfz5_0 := bF BK121.out 0; have hfz5_1 := bF BK121.out 1) | ((with_reducible refine gate_callee (f := 79) rfl ?_); refine goesL_ (some 6) rfl rfl Tryd.func79 (by kernel_rfl) rfl #[.slice A0_1 l0_1.length c0_1, .func (.func 80) #[] #[]] rfl (by (try simp only [List.map_toArray, List.map_cons, List.map_nil]); first | done | rfl | (simp only [List.length_drop, List.length_take]; rfl) | (rw [wrap_sum2 (by assumption)]; rfl)) ?_; (with_reducible refine (step_Step_contains.calls _ _ l0_1 true _ ?side1 ?side2 A2.out).mono ?_); (case side1 => repeat (first | exact (Kd.C_below HR0_1.out HB.out) | (with_reducible refine Kd.C_alloc ?_ _) | (with_reducible refine Kd.C_drewN ?_ _) | (with_reducible refine Kd.C_drew ?_))); (case side2 => exact HC0_1.out); rintro e w6 ⟨rfl, hb⟩; refine ⟨_, rfl, ?_⟩; have n0_ := Ax.mk (bB (bT BK121.out) hb); have n1_ := Ax.mk (bP bA hb); clear BK121; clear HB; have BK121 := n0_; have HB := n1_; clear n0_ n1_; (try clear hb); (try clear hb2); (try clear hk); (try clear hi)))
  go_ret2
  exact ⟨by first | rfl | (simp [errW_none, errW_some] <;> rfl) | (simp [*, errW_none, errW_some] <;> rfl), bA⟩
 ·replace c3 := Bool.eq_false_iff.mpr c3
  subst c3
  have H1 : ((step_Step.f l0_1).bind fun t123 => ((some (([(⟨8, 0, 0, a0_0, (⟨#[]⟩ : ByteArray)⟩ : S24)] : List (S24)) : List (S24))).bind fun y126 => (if t123.length + y126.length < 2932031007402 then ((journal_put.f k (t123 ++ y126)).bind fun bt132 => (some (bt132.1, bt132.2))) else (none)))) = some (r1, r2) := by rw [if_neg (show ¬ (false = true) by decide)] at H; exact H
  clear H
  have H := H1
  clear H1
  replace H := Option.bind_eq_some_iff.mp H
  obtain ⟨t123, A70, H⟩ := H
  replace H : ((some (([(⟨8, 0, 0, a0_0, (⟨#[]⟩ : ByteArray)⟩ : S24)] : List (S24)) : List (S24))).bind fun y126 => (if t123.length + y126.length < 2932031007402 then ((journal_put.f k (t123 ++ y126)).bind fun bt132 => (some (bt132.1, bt132.2))) else (none))) = some (r1, r2) := H
  have A7 := Ax.mk A70
  clear A70
  obtain ⟨y126, hy126⟩ : ∃ y_ : List (S24), y_ = (([(⟨8, 0, 0, a0_0, (⟨#[]⟩ : ByteArray)⟩ : S24)] : List (S24))) := ⟨_, rfl⟩
  replace H : (if t123.length + y126.length < 2932031007402 then ((journal_put.f k (t123 ++ y126)).bind fun bt132 => (some (bt132.1, bt132.2))) else (none)) = some (r1, r2) := by first | (rw [hy126]; with_reducible exact H) | (have H2_ := (Option.bind_some _ _).symm.trans H; rw [hy126]; with_reducible exact H2_) | (have H2_ := (Option.bind_some _ _).symm.trans H; with_reducible exact H2_) | with_reducible exact H | (rw [hy126]; exact H) | exact H
  have Ny126 := Ax.mk hy126
  clear hy126
  by_cases c8 : t123.length + y126.length < 2932031007402
  ·rw [if_pos c8] at H
   have LMc8 := Ax.mk c8
   clear c8
   obtain ⟨y129, hy129⟩ : ∃ y_ : List (S24), y_ = (t123 ++ y126) := ⟨_, rfl⟩
   replace H : ((journal_put.f k y129).bind fun bt132 => (some (bt132.1, bt132.2))) = some (r1, r2) := by first | (rw [hy129]; with_reducible exact H) | (have H2_ := (Option.bind_some _ _).symm.trans H; rw [hy129]; with_reducible exact H2_) | (have H2_ := (Option.bind_some _ _).symm.trans H; with_reducible exact H2_) | with_reducible exact H | (rw [hy129]; exact H) | exact H
   have Ny129 := Ax.mk hy129
   clear hy129
   replace H := Option.bind_eq_some_iff.mp H
   obtain ⟨⟨t132, t133⟩, A90, H⟩ := H
   replace H : (some (t132, t133)) = some (r1, r2) := H
   have A9 := Ax.mk A90
   clear A90
   simp only [Option.some.injEq, Prod.mk.injEq] at H
   obtain ⟨rfl, rfl⟩ := H
   go_enter Tryd.func74, Tryd.ntmps74
   try go_wp2_with (first | ((with_reducible refine gate_dst (N := 1) rfl ?_); refine box_event ?hg (N := 1) ?hd (cs := #[.int .u64 a0_0, .slice A0_1 l0_1.length c0_1]) (t := 44) ?hr ?_; (case hd => rfl); (case hg => rfl); (case hr => first | (go_simp; done) | (go_simp; rfl)); intro gb121 hg w10 hbox hb; have n0_ := Ax.mk (bP bA hb); have n1_ := Ax.mk (hbox); have n2_ := Ax.mk ((ge_new hg : w.heap.size ≤ gb121)); have n3_ := n2_; clear HB; have HB := n0_; have BK121 := n1_; have GW121 := n2_; have GE121 := n3_; clear n0_ n1_ n2_ n3_; clear hb hbox hg; have hcz11_0 : w10.cell? ⟨gb121, 0, none⟩ = some (.int .u64 a0_0) := (bC BK121.out 0).trans rfl; have hcz11_1 : w10.cell? ⟨gb121, 1, none⟩ = some (.slice A0_1 l0_1.length c0_1) := (bC BK121.out 1).trans rfl; have hfz11_0 := bF BK121.out 0; have hfz11_1 := bF BK121.out 1) | ((with_reducible refine gate_callee (f := 79) rfl ?_); refine goesL_ (some 6) rfl rfl Tryd.func79 (by kernel_rfl) rfl #[.slice A0_1 l0_1.length c0_1, .func (.func 80) #[] #[]] rfl (by (try simp only [List.map_toArray, List.map_cons, List.map_nil]); first | done | rfl | (simp only [List.length_drop, List.length_take]; rfl) | (rw [wrap_sum2 (by assumption)]; rfl)) ?_; (with_reducible refine (step_Step_contains.calls _ _ l0_1 false _ ?side1 ?side2 A2.out).mono ?_); (case side1 => repeat (first | exact (Kd.C_below HR0_1.out HB.out) | (with_reducible refine Kd.C_alloc ?_ _) | (with_reducible refine Kd.C_drewN ?_ _) | (with_reducible refine Kd.C_drew ?_))); (case side2 => exact HC0_1.out); rintro e w12 ⟨rfl, hb⟩; refine ⟨_, rfl, ?_⟩; have n0_ := Ax.mk (bB (bT BK121.out) hb); have n1_ := Ax.mk (bP bA hb); clear BK121; clear HB; have BK121 := n0_; have HB := n1_; clear n0_ n1_; (try clear hb); (try clear hb2); (try clear hk); (try clear hi)))
   have n0_ := Ax.mk (blk_drew BK121.out)
   have n1_ := Ax.mk (below_drew1 HB.out)
   clear BK121
   clear HB
   have BK121 := n0_
   have HB := n1_
   clear n0_ n1_
   refine start_ (n := 13) (S := fun w' => w'.cell? ⟨gb121, 0, none⟩ = some (.int .u64 a0_0) ∧ w'.cell? ⟨gb121, 1, none⟩ = some (.slice A0_1 l0_1.length c0_1)) (ds := []) #[false, false, false, false, false, false, false, false, false, false, false, false, false] (by kernel_rfl) rfl rfl ⟨(bC BK121.out 0).trans rfl, (bC BK121.out 1).trans rfl⟩ (fun hHeld => ?_); refine with_tabW journal_closed.tab3 journal_closed.bits3 (fun HT_ HW_ => ?_)
   generalize w12.drew = w13 at BK121 HB hHeld ⊢
   refine pure_ (i := 0) (N := some 7) (v := ?_) (a' := ?_) #[true, false, false, false, false, false, false, false, false, false, false, false, false] rfl rfl (any_of HT_.out (by kernel_rfl)) (fun _ _ _ h => h) (Or.inl ⟨by rfl, ?_⟩) ?_ ?_
   rotate_left
   ·intro w'
    go_simp
    with_reducible rfl
   rotate_left
   ·simp only [Act.put, setIfInBounds_toArray, set_cons_zero, set_cons_succ, i64_w, i32_w]
    rfl
   refine pure_ (i := 3) (N := some 10) (v := ?_) (a' := ?_) #[true, false, false, true, false, false, false, false, false, false, false, false, false] rfl rfl (any_of HT_.out (by kernel_rfl)) (fun _ _ _ h => h) (Or.inl ⟨by rfl, ?_⟩) ?_ ?_
   rotate_left
   ·intro w'
    go_simp
    with_reducible rfl
   rotate_left
   ·simp only [Act.put, setIfInBounds_toArray, set_cons_zero, set_cons_succ, i64_w, i32_w]
    rfl
   refine take_ (i := 1) (N := some 8) (v := ?_) (a' := ?_) #[true, true, false, true, false, false, false, false, false, false, false, false, false] rfl rfl (take_ofW HT_.out HW_.out (by kernel_rfl)) (fun _ _ _ h => h) (Or.inl ⟨by rfl, ?_⟩) hHeld ?_ ?_
   rotate_left
   ·rintro w' ⟨s0, s1⟩
    go_simp
    with_reducible rfl
   rotate_left
   ·simp only [Act.put, setIfInBounds_toArray, set_cons_zero, set_cons_succ, i64_w, i32_w]
    rfl
   refine take_ (i := 4) (N := some 11) (v := ?_) (a' := ?_) #[true, true, false, true, true, false, false, false, false, false, false, false, false] rfl rfl (take_ofW HT_.out HW_.out (by kernel_rfl)) (fun _ _ _ h => h) (Or.inl ⟨by rfl, ?_⟩) hHeld ?_ ?_
   rotate_left
   ·rintro w' ⟨s0, s1⟩
    go_simp
    with_reducible rfl
   rotate_left
   ·simp only [Act.put, setIfInBounds_toArray, set_cons_zero, set_cons_succ, i64_w, i32_w]
    rfl
   refine pure_ (i := 5) (N := some 12) (v := ?_) (a' := ?_) #[true, true, false, true, true, true, false, false, false, false, false, false, false] rfl rfl (any_of HT_.out (by kernel_rfl)) (fun _ _ _ h => h) (Or.inl ⟨by rfl, ?_⟩) ?_ ?_
   rotate_left
   ·intro w'
    go_simp
    with_reducible rfl
   rotate_left
   ·simp only [Act.put, setIfInBounds_toArray, set_cons_zero, set_cons_succ, i64_w, i32_w]
    rfl
   refine join_ (σ := Value × Value) 6 #[true, true, true, true, true, true, true, false, false, false, false, false, false] (fun s_ => [(9, s_.1), (13, s_.2)]) (fun s_ w' => (w'.cell? ⟨gb121, 0, none⟩ = some (.int .u64 a0_0) ∧ w'.cell? ⟨gb121, 1, none⟩ = some (.slice A0_1 l0_1.length c0_1)) ∧ (Kd.R k24 24 w' w.heap.size (fun k_ => some k_ ≠ (s_.2 : Value).ownBlock) s_.1 t123) ∧ (Kd.R k24 24 w' w.heap.size (fun k_ => some k_ ≠ (s_.1 : Value).ownBlock) s_.2 y126) ∧ (w'.heap[gb121]? = some (.cells #[.int .u64 a0_0, .slice A0_1 l0_1.length c0_1] 44 (0, 0))) ∧ (Below w.heap.size w w')) ?_ ?_
   rotate_left
   ·intro hCont
    refine two_ (i := 2) (j := 6) (Ni := some 9) (Nj := some 13) #[true, true, true, true, true, true, false, false, false, false, false, false, false] #[true, true, false, true, true, true, true, false, false, false, false, false, false] rfl rfl rfl rfl (two_of HT_.out (by kernel_rfl)) (by decide) (by decide) (fun K hK => ?_) (fun K hK => ?_)
    ·skip
     refine goes_ Tryd.func53 (by kernel_rfl) rfl #[.slice A0_1 l0_1.length c0_1] (by rfl) rfl rfl (by (try simp only [List.map_toArray, List.map_cons, List.map_nil]); first | done | rfl | (simp only [List.length_drop, List.length_take]; rfl) | (rw [wrap_sum2 (by assumption)]; rfl)) ?_
     with_reducible refine (step_Step.calls _ _ l0_1 t123 _ ?side1 ?side2 A7.out).mono ?_
     (case side1 => repeat (first | exact (Kd.C_below HR0_1.out HB.out) | (with_reducible refine Kd.C_alloc ?_ _) | (with_reducible refine Kd.C_drewN ?_ _) | (with_reducible refine Kd.C_drew ?_)))
     (case side2 => exact HC0_1.out)
     rintro e w14 ⟨v124, rfl, ho0, hb⟩
     refine ⟨_, rfl, ?_⟩
     have n0_ := Ax.mk (Kd.R_lower ho0 (bS bA))
     have n1_ := Ax.mk (bB (bT BK121.out) hb)
     have n2_ := Ax.mk (bP bA hb)
     clear BK121
     clear HB
     have HO125 := n0_
     have BK121 := n1_
     have HB := n2_
     clear n0_ n1_ n2_
     (try clear hb)
     (try clear hb2)
     (try clear hk)
     (try clear hi)
     (try clear ho0)
     refine hK.out _ _ ⟨(bC BK121.out 0).trans rfl, (bC BK121.out 1).trans rfl⟩ (fun hHeld => ?_)
     clear hK K
     refine norm_ (a' := ?_) ?_ ?_
     rotate_left
     ·show Act.put _ (some 9) _ = _
      simp only [Act.put, setIfInBounds_toArray, set_cons_zero, set_cons_succ, i64_w, i32_w]
      rfl
     refine one_ (i := 6) (N := some 13) #[true, true, true, true, true, true, true, false, false, false, false, false, false] rfl rfl (one_of HT_.out (by kernel_rfl)) (by decide) (fun K hK => ?_)
     refine Kd.R_lit_step k24 _ 24 ?hg (N := 13) ?hd (xs := ([(⟨8, 0, 0, a0_0, (⟨#[]⟩ : ByteArray)⟩ : S24)] : List (S24))) (inner := [.int .i64 8, .int .i64 0, .int .i64 0, .int .u64 a0_0, .string (⟨#[]⟩ : ByteArray)]) (ok := fun _ => True) (okp := fun _ => True) ?hr ?hp (fun _ hk => hk) trivial (Below.refl _ _) (Nat.le_refl _) (by simp) ?_; (case hd => rfl); (case hg => rfl); (case hr => first | (go_simp; done) | (go_simp; rfl)); (case hp => exact (Reps.c5 (show Kd.M k24 _ _ _ (⟨8, 0, 0, a0_0, (⟨#[]⟩ : ByteArray)⟩ : S24) [.int .i64 8, .int .i64 0, .int .i64 0, .int .u64 a0_0, .string (⟨#[]⟩ : ByteArray)] from (k24_mkM _ _ _ (⟨8, 0, 0, a0_0, (⟨#[]⟩ : ByteArray)⟩ : S24) )) (Reps.none _ _)))
     intro v127 w15 ho16 hb hg_ hnew_
     clear hg_ hnew_
     (first | rw [← Ny126.out] at ho16 | (simp only [Int.reduceToNat] at ho16; rw [← Ny126.out] at ho16))
     have n0_ := Ax.mk (Kd.R_elder' (by exact Kd.R_to HO125.out) (Kd.R_base ho16) hb)
     have n1_ := Ax.mk (Kd.R_lower (Kd.R_new' ho16 (Kd.R_lt (by exact Kd.R_to HO125.out))) (bS bA))
     have n2_ := Ax.mk (bB (bT BK121.out) hb)
     have n3_ := Ax.mk (bP bA hb)
     clear HO125
     clear BK121
     clear HB
     have HO125 := n0_
     have HO128 := n1_
     have BK121 := n2_
     have HB := n3_
     clear n0_ n1_ n2_ n3_
     clear hb ho16
     refine hK.out _ _ ⟨(bC BK121.out 0).trans rfl, (bC BK121.out 1).trans rfl⟩ (fun hHeld => ?_)
     clear hK K
     refine norm_ (a' := ?_) ?_ ?_
     rotate_left
     ·show Act.put _ (some 13) _ = _
      simp only [Act.put, setIfInBounds_toArray, set_cons_zero, set_cons_succ, i64_w, i32_w]
      rfl
     exact norm_ (by simp only [putAll, Act.put, List.setIfInBounds_toArray, List.set_cons_zero, List.set_cons_succ]) (hCont (v124, v127) _ ⟨hHeld, (by apply Kd.R_to; exact Kd.R_mono HO125.out (fun _ hk => hk.2)), (by apply Kd.R_to; exact Kd.R_mono HO128.out (fun _ hk => hk.2)), (bT BK121.out), bA⟩)
    ·skip
     refine Kd.R_lit_step k24 _ 24 ?hg (N := 13) ?hd (xs := ([(⟨8, 0, 0, a0_0, (⟨#[]⟩ : ByteArray)⟩ : S24)] : List (S24))) (inner := [.int .i64 8, .int .i64 0, .int .i64 0, .int .u64 a0_0, .string (⟨#[]⟩ : ByteArray)]) (ok := fun _ => True) (okp := fun _ => True) ?hr ?hp (fun _ hk => hk) trivial (Below.refl _ _) (Nat.le_refl _) (by simp) ?_; (case hd => rfl); (case hg => rfl); (case hr => first | (go_simp; done) | (go_simp; rfl)); (case hp => exact (Reps.c5 (show Kd.M k24 _ _ _ (⟨8, 0, 0, a0_0, (⟨#[]⟩ : ByteArray)⟩ : S24) [.int .i64 8, .int .i64 0, .int .i64 0, .int .u64 a0_0, .string (⟨#[]⟩ : ByteArray)] from (k24_mkM _ _ _ (⟨8, 0, 0, a0_0, (⟨#[]⟩ : ByteArray)⟩ : S24) )) (Reps.none _ _)))
     intro v127 w14 ho15 hb hg_ hnew_
     clear hg_ hnew_
     (first | rw [← Ny126.out] at ho15 | (simp only [Int.reduceToNat] at ho15; rw [← Ny126.out] at ho15))
     have n0_ := Ax.mk (Kd.R_lower ho15 (bS bA))
     have n1_ := Ax.mk (bB (bT BK121.out) hb)
     have n2_ := Ax.mk (bP bA hb)
     clear BK121
     clear HB
     have HO128 := n0_
     have BK121 := n1_
     have HB := n2_
     clear n0_ n1_ n2_
     clear hb ho15
     refine hK.out _ _ ⟨(bC BK121.out 0).trans rfl, (bC BK121.out 1).trans rfl⟩ (fun hHeld => ?_)
     clear hK K
     refine norm_ (a' := ?_) ?_ ?_
     rotate_left
     ·show Act.put _ (some 13) _ = _
      simp only [Act.put, setIfInBounds_toArray, set_cons_zero, set_cons_succ, i64_w, i32_w]
      rfl
     refine one_ (i := 2) (N := some 9) #[true, true, true, true, true, true, true, false, false, false, false, false, false] rfl rfl (one_of HT_.out (by kernel_rfl)) (by decide) (fun K hK => ?_)
     refine goes_ Tryd.func53 (by kernel_rfl) rfl #[.slice A0_1 l0_1.length c0_1] (by rfl) rfl rfl (by (try simp only [List.map_toArray, List.map_cons, List.map_nil]); first | done | rfl | (simp only [List.length_drop, List.length_take]; rfl) | (rw [wrap_sum2 (by assumption)]; rfl)) ?_
     with_reducible refine (step_Step.calls _ _ l0_1 t123 _ ?side1 ?side2 A7.out).mono ?_
     (case side1 => repeat (first | exact (Kd.C_below HR0_1.out HB.out) | (with_reducible refine Kd.C_alloc ?_ _) | (with_reducible refine Kd.C_drewN ?_ _) | (with_reducible refine Kd.C_drew ?_)))
     (case side2 => exact HC0_1.out)
     rintro e w16 ⟨v124, rfl, ho0, hb⟩
     refine ⟨_, rfl, ?_⟩
     have n0_ := Ax.mk (Kd.R_elder' (by exact Kd.R_to HO128.out) (Kd.R_base ho0) hb)
     have n1_ := Ax.mk (Kd.R_lower (Kd.R_new' ho0 (Kd.R_lt (by exact Kd.R_to HO128.out))) (bS bA))
     have n2_ := Ax.mk (bB (bT BK121.out) hb)
     have n3_ := Ax.mk (bP bA hb)
     clear HO128
     clear BK121
     clear HB
     have HO128 := n0_
     have HO125 := n1_
     have BK121 := n2_
     have HB := n3_
     clear n0_ n1_ n2_ n3_
     (try clear hb)
     (try clear hb2)
     (try clear hk)
     (try clear hi)
     (try clear ho0)
     refine hK.out _ _ ⟨(bC BK121.out 0).trans rfl, (bC BK121.out 1).trans rfl⟩ (fun hHeld => ?_)
     clear hK K
     refine norm_ (a' := ?_) ?_ ?_
     rotate_left
     ·show Act.put _ (some 9) _ = _
      simp only [Act.put, setIfInBounds_toArray, set_cons_zero, set_cons_succ, i64_w, i32_w]
      rfl
     exact norm_ (by simp only [putAll, Act.put, List.setIfInBounds_toArray, List.set_cons_zero, List.set_cons_succ]) (hCont (v124, v127) _ ⟨hHeld, (by apply Kd.R_to; exact Kd.R_mono HO125.out (fun _ hk => hk.2)), (by apply Kd.R_to; exact Kd.R_mono HO128.out (fun _ hk => hk.2)), (bT BK121.out), bA⟩)
   rintro ⟨v124, v127⟩ w17 ⟨hS_, h0_, h1_, h2_, h3_⟩
   have n0_ : Ax (Kd.R k24 24 w17 w.heap.size (fun k_ => some k_ ≠ (v127 : Value).ownBlock) v124 t123) := ⟨h0_⟩
   have n1_ : Ax (Kd.R k24 24 w17 w.heap.size (fun k_ => some k_ ≠ (v124 : Value).ownBlock) v127 y126) := ⟨h1_⟩
   have n2_ : Ax (w17.heap[gb121]? = some (.cells #[.int .u64 a0_0, .slice A0_1 l0_1.length c0_1] 44 (0, 0))) := ⟨h2_⟩
   have n3_ : Ax (Below w.heap.size w w17) := ⟨h3_⟩
   clear BK121
   clear HB
   clear h0_ h1_ h2_ h3_
   have HO125 := n0_
   have HO128 := n1_
   have BK121 := n2_
   have HB := n3_
   clear n0_ n1_ n2_ n3_
   have hHeld : w17.cell? ⟨gb121, 0, none⟩ = some (.int .u64 a0_0) ∧ w17.cell? ⟨gb121, 1, none⟩ = some (.slice A0_1 l0_1.length c0_1) := hS_
   obtain ⟨Ao19, co19, eo19⟩ := Kd.R_slice HO128.out
   (first | subst eo19 | (injection eo19 with f1_ f2_ f3_; have f4_ := f1_.symm; have f5_ := f3_.symm; clear f1_ f2_ f3_; subst f4_; subst f5_))
   refine norm_ (a' := ?_) ?_ ?_
   rotate_left
   ·simp only [putAll, Act.put, List.setIfInBounds_toArray, List.set_cons_zero, List.set_cons_succ]
    rfl
   refine one_ (i := 7) (N := some 14) #[true, true, true, true, true, true, true, true, false, false, false, false, false] rfl rfl (one_of HT_.out (by kernel_rfl)) (by decide) (fun K hK => ?_)
   refine Kd.R_append_rows_step k24 (w0 := w) w.heap.size (by rfl) (.tmp 9) (.tmp 13) 29 24 (.agg #[(.int .i64 0), (.int .i64 0), (.int .i64 0), (.int .u64 0), (.string ⟨#[]⟩)]) 48 rfl Tryd.underlying29 info24 rfl (by decide) (by omega) v124 t123 y126 _ _ _ (fun k_ => some k_ ≠ (.slice Ao19 y126.length co19 : Value).ownBlock) (fun _ => False) rfl rfl ?aO ?aR (fun _ _ h => h) (fun _ h => h.elim) ?aF ?aB ?aS ?aL ?_
   (case aR => repeat (first | exact (Kd.R_reads' HO128.out).2.2 | (with_reducible refine Kd.C_alloc ?_ _) | (with_reducible refine Kd.C_drewN ?_ _) | (with_reducible refine Kd.C_drew ?_)))
   (case aB => exact bA)
   (case aF => exact (fun k_ hk => Kd.fresh' (Kd.R_lt (by exact Kd.R_to HO128.out)) k_ hk))
   (case aO => exact (by exact Kd.R_to HO125.out))
   (case aS => exact (bS bA))
   (case aL => have := LMc8.out; omega)
   intro v130 w18 ho hb hg hat
   rw [← Ny129.out] at ho
   have n0_ := Ax.mk (blk_grown (g := gb121) (o := .cells #[.int .u64 a0_0, .slice A0_1 l0_1.length c0_1] 44 (0, 0)) (bT BK121.out) hg (Kd.R_ne HO125.out BK121.out (by decide)))
   have n1_ := Ax.mk (Kd.R_after (ok := (fun _ => True)) (by apply Kd.R_to; exact Kd.R_mono HO128.out (fun _ hk => ⟨trivial, hk⟩)) hg hat)
   have n2_ := Ax.mk (hb)
   have n3_ := Ax.mk (ho)
   clear BK121
   clear HO128
   clear HB
   clear HO125
   have BK121 := n0_
   have HO128 := n1_
   have HB := n2_
   have HO131 := n3_
   clear n0_ n1_ n2_ n3_
   clear ho hb hg hat
   obtain ⟨Ao20, co20, eo20⟩ := Kd.R_slice HO131.out
   (first | subst eo20 | (injection eo20 with f1_ f2_ f3_; have f4_ := f1_.symm; have f5_ := f3_.symm; clear f1_ f2_ f3_; subst f4_; subst f5_))
   refine hK.out _ _ ⟨(bC BK121.out 0).trans rfl, (bC BK121.out 1).trans rfl⟩ (fun hHeld => ?_)
   clear hK K
   refine norm_ (a' := ?_) ?_ ?_
   rotate_left
   ·show Act.put _ (some 14) _ = _
    simp only [Act.put, setIfInBounds_toArray, set_cons_zero, set_cons_succ, i64_w, i32_w]
    rfl
   refine one_ (i := 8) (N := some 15) #[true, true, true, true, true, true, true, true, true, false, false, false, false] rfl rfl (one_of HT_.out (by kernel_rfl)) (by decide) (fun K hK => ?_)
   refine goes_ Tryd.func81 (by kernel_rfl) rfl #[.slice Ao20 y129.length co20] (by rfl) rfl rfl (by (try simp only [List.map_toArray, List.map_cons, List.map_nil]); first | done | rfl | (simp only [List.length_drop, List.length_take]; rfl) | (rw [wrap_sum2 (by assumption)]; rfl)) ?_
   with_reducible refine (journal_put.calls k _ _ y129 t132 t133 _ ?side1 ?side2 A9.out (HT.below bA)).mono ?_
   (case side1 => repeat (first | exact (Kd.R_reads' HO131.out).2.2 | (with_reducible refine Kd.C_alloc ?_ _) | (with_reducible refine Kd.C_drewN ?_ _) | (with_reducible refine Kd.C_drew ?_)))
   (case side2 => exact (Kd.R_reads' HO131.out).2.1)
   rintro e w21 ⟨rfl, hb⟩
   refine ⟨_, rfl, ?_⟩
   have n0_ := Ax.mk (Kd.R_below (by exact Kd.R_to HO128.out) hb)
   have n1_ := Ax.mk (Kd.R_below (by exact Kd.R_to HO131.out) hb)
   have n2_ := Ax.mk (bB (bT BK121.out) hb)
   have n3_ := Ax.mk (bP bA hb)
   clear HO128
   clear HO131
   clear BK121
   clear HB
   have HO128 := n0_
   have HO131 := n1_
   have BK121 := n2_
   have HB := n3_
   clear n0_ n1_ n2_ n3_
   (try clear hb)
   (try clear hb2)
   (try clear hk)
   (try clear hi)
   refine hK.out _ _ ⟨(bC BK121.out 0).trans rfl, (bC BK121.out 1).trans rfl⟩ (fun hHeld => ?_)
   clear hK K
   refine norm_ (a' := ?_) ?_ ?_
   rotate_left
   ·show Act.put _ (some 15) _ = _
    simp only [Act.put, setIfInBounds_toArray, set_cons_zero, set_cons_succ, i64_w, i32_w]
    rfl
   refine pure_ (i := 9) (N := some 16) (v := ?_) (a' := ?_) #[true, true, true, true, true, true, true, true, true, true, false, false, false] rfl rfl (any_of HT_.out (by kernel_rfl)) (fun _ _ _ h => h) (Or.inl ⟨by rfl, ?_⟩) ?_ ?_
   rotate_left
   ·intro w'
    go_simp
    with_reducible rfl
   rotate_left
   ·simp only [Act.put, setIfInBounds_toArray, set_cons_zero, set_cons_succ, i64_w, i32_w]
    rfl
   refine pure_ (i := 10) (N := some 17) (v := ?_) (a' := ?_) #[true, true, true, true, true, true, true, true, true, true, true, false, false] rfl rfl (any_of HT_.out (by kernel_rfl)) (fun _ _ _ h => h) (Or.inl ⟨by rfl, ?_⟩) ?_ ?_
   rotate_left
   ·intro w'
    go_simp
    with_reducible rfl
   rotate_left
   ·simp only [Act.put, setIfInBounds_toArray, set_cons_zero, set_cons_succ, i64_w, i32_w]
    rfl
   refine pure_ (i := 11) (N := some 2) (v := ?_) (a' := ?_) #[true, true, true, true, true, true, true, true, true, true, true, true, false] rfl rfl (any_of HT_.out (by kernel_rfl)) (fun _ _ _ h => h) (Or.inl ⟨by rfl, ?_⟩) ?_ ?_
   rotate_left
   ·intro w'
    go_simp
    with_reducible rfl
   rotate_left
   ·simp only [Act.put, setIfInBounds_toArray, set_cons_zero, set_cons_succ, i64_w, i32_w]
    rfl
   refine pure_ (i := 12) (N := some 3) (v := ?_) (a' := ?_) #[true, true, true, true, true, true, true, true, true, true, true, true, true] rfl rfl (any_of HT_.out (by kernel_rfl)) (fun _ _ _ h => h) (Or.inl ⟨by rfl, ?_⟩) ?_ ?_
   rotate_left
   ·intro w'
    go_simp
    with_reducible rfl
   rotate_left
   ·simp only [Act.put, setIfInBounds_toArray, set_cons_zero, set_cons_succ, i64_w, i32_w]
    rfl
   refine done_ (done_of HT_.out (by kernel_rfl)) ?_
   try go_wp2
   go_ret2
   exact ⟨by first | rfl | (simp [errW_none, errW_some] <;> rfl) | (simp [*, errW_none, errW_some] <;> rfl), bA⟩
  ·rw [if_neg c8] at H
   exact absurd H (by simp)
end Go.Proofs.YtboommbclbjlnaaDoor.Fn
end
section
namespace Go.Proofs.YtboommbclbjlnaaDoor.Fn
open Go.RowKit Go.Proofs.YtboommbclbjlnaaDoorW.PrintWords Go.Proofs.YtboommbclbjlnaaDoorW.PrintLast Go.Proofs.YtboommbclbjlnaaDoorW.PrintMore Go.Proofs.YtboommbclbjlnaaDoor.Lf
attribute [local go_sem] max2_int min2_int max_two min_two max_three min_three max_four min_four   -- for this text's walks alone
set_option linter.unusedVariables false
set_option linter.unusedSimpArgs false
def step_Group.f (l : List S44) : Option (List S44) := if l.length ≤ 1000000000 then some l else none
set_option maxHeartbeats 4000000 in
set_option maxRecDepth 100000 in
theorem step_Group.calls (P0_ : Nat → Prop) (A0 : Option Addr) (c0 : Nat) (l0 r1 : List S44) (w : World) (hs0 : Kd.V k44 44 w w.heap.size (fun k_ => P0_ k_) (.slice A0 l0.length c0) l0) (h : step_Group.f l0 = some r1) :
  Calls Tryd.prog 75 #[.slice A0 l0.length c0] w fun e w' => ∃ v0_ : Value, e = .returned v0_ ∧ Kd.N k44 44 w' w.heap.size (fun k_ => (P0_ k_ ∨ w.heap.size ≤ k_)) v0_ r1 ∧ Below w.heap.size w w' := by
 unfold step_Group.f at h
 split at h
 case isFalse => cases h
 rename_i hn
 cases h
 obtain ⟨A, c, hv, hl, hF⟩ := hs0
 cases hv
 have q22 : ∀ (w : World) (a : Option Addr) (n c n' c' : Nat), (binOp .eql 37 (.slice a n c) (.slice none n' c')).run Tryd.prog w = .ok (.bool a.isNone) w := fun w a n c n' c' => Lib.run_eql_slice_nil w _ _ a n c n' c' Tryd.underlying37
 cases A0 with
 | none =>
  have hl0 : l0 = [] := by
   rcases Nat.eq_zero_or_pos l0.length with h0 | h0
   ·exact List.eq_nil_of_length_eq_zero h0
   ·obtain ⟨ad, e, _⟩ := (Kd.F_now hF).2.2 h0
    cases e
  subst hl0
  clear hF
  go_enter Tryd.func75, Tryd.ntmps75
  go_wp2
  go_ret
  exact ⟨_, rfl, Kd.N_nil _ _ _ _ _, Below.refl _ _⟩
 | some ad =>
  have HF := Ax.mk hF
  clear hF
  have HN := Ax.mk (show Kd.N k44 44 (w.alloc (.cells #[] 44)) w.heap.size (fun k => P0_ k ∨ w.heap.size ≤ k) (.slice (some ⟨w.heap.size, 0, none⟩) 0 0) [] from
   Kd.R_N ⟨fun k hk => .inr (by simp [Value.ownBlock] at hk; omega), [], World.ownsRow_made w #[] 0 (Nat.le_refl _) (Nat.zero_le _) (by simp), ⟨rfl, fun j p hj => by simp at hj⟩⟩)
  go_enter Tryd.func75, Tryd.ntmps75
  go_wp2_with (at_builtin; refine Kd.N_append_rows k44 (w0 := w) w.heap.size rfl (.tmp 5) (.tmp 6) 37 44 _ 32 rfl Tryd.underlying37 info44 rfl (by decide) (by omega) (.slice (some ⟨w.heap.size, 0, none⟩) 0 0) [] l0 (some ad) l0.length c0 (fun k => P0_ k ∨ w.heap.size ≤ k) (fun k => P0_ k ∧ k < w.heap.size) rfl rfl HN.out ?qF ?qO ?qR ?qB ?qZ ?qL ?_)
  case qF => exact Kd.F_below (Kd.F_bound HF.out) (below_alloc (Below.refl _ _) _)
  case qO =>
   rintro k ⟨hk, hlt⟩
   exact ⟨.inl hk, by simp [Value.ownBlock]; omega⟩
  case qR => intro k hk; simp at hk; exact .inr (by omega)
  case qB => exact below_alloc (Below.refl _ _) _
  case qZ => simp
  case qL => simp; omega
  intro v1 w1 hN1 hb1 _ _
  go_wp2
  go_ret
  exact ⟨v1, rfl, by simpa using hN1, hb1⟩
end Go.Proofs.YtboommbclbjlnaaDoor.Fn
end
section
namespace Go.Proofs.YtboommbclbjlnaaDoor.Fn
open Go.RowKit Go.Proofs.YtboommbclbjlnaaDoorW.PrintWords Go.Proofs.YtboommbclbjlnaaDoorW.PrintLast Go.Proofs.YtboommbclbjlnaaDoorW.PrintMore Go.Proofs.YtboommbclbjlnaaDoor.Lf
open List (setIfInBounds_toArray set_cons_zero set_cons_succ)
attribute [local go_sem] max2_int min2_int max_two min_two max_three min_three max_four min_four   -- for this text's walks alone
set_option linter.unusedVariables false
set_option linter.unusedSimpArgs false
def journal_Log_with.f (k : Nat) (a0_0 : Int) (l0_1 : List (S44)) (a0_2 : ByteArray) (a1_0 : Int) (l1_1 : List (S24)) : Option (Int × (List (S44)) × ByteArray × Int) := (journal_closed.f k a1_0 l1_1).bind fun bt137 => (if bt137.2 = 0 then ((step_Step.f l1_1).bind fun t139 => ((step_Group.f l0_1).bind fun t142 => ((some (([(⟨a1_0, t139⟩ : S44)] : List (S44)) : List (S44))).bind fun y145 => (if t142.length + y145.length < 4398046511104 then (if a0_2.size + bt137.1.size ≤ 9223372036854775807 then (some (a1_0, (t142 ++ y145), a0_2 ++ bt137.1, 0)) else (none)) else (none))))) else (some (0, ([] : List (S44)), (⟨#[]⟩ : ByteArray), bt137.2)))
theorem journal_Log_with.mono : ∀ a0 a1 a2 a3 a4 k, LeO (journal_Log_with.f k a0 a1 a2 a3 a4) (journal_Log_with.f (k + 1) a0 a1 a2 a3 a4) := by
 intro a0 a1 a2 a3 a4 k
 unfold journal_Log_with.f
 repeat' first
   | (with_reducible exact journal_closed.mono _ _ _)
   | (with_reducible exact LeO.refl _)
   | (with_reducible exact LeO.none _)
   | (with_reducible refine LeO.ite ?_ ?_)
   | (with_reducible refine LeO.bind ?_ (fun _ => ?_))
   | exact journal_closed.mono _ _ _
   | exact LeO.none _
   | refine LeO.ite ?_ ?_
   | refine LeO.bind ?_ (fun _ => ?_)
def journal_Log_with.T5 : Bool × List (List Nat × List Nat) := (true, [([], []), ([0], [0]), ([], []), ([2], [2]), ([3], [3]), ([], []), ([5], [5]), ([4, 6, 4], [4, 6]), ([], []), ([8], [8]), ([], []), ([9, 10], [9, 10]), ([1, 7, 11], [1, 7, 11]), ([12, 7, 0, 1, 2, 3, 4, 5, 6, 7, 8, 9, 10, 11, 12], [12]), ([13, 0, 1, 2, 3, 4, 5, 6, 7, 8, 9, 10, 11, 12, 13], [])])
def journal_Log_with.B5 : List Nat := [0, 1, 0, 4, 12, 0, 32, 124, 0, 256, 0, 1792, 4095, 8191, 16383]
theorem journal_Log_with.tab5 : rtab .any (opsOf Tryd.f62 5) = journal_Log_with.T5 := by kernel_rfl
theorem journal_Log_with.bits5 : waitsOk journal_Log_with.T5.2 journal_Log_with.B5 = true := by kernel_rfl
set_option maxHeartbeats 8000000 in
set_option maxRecDepth 100000 in
theorem journal_Log_with.calls (k : Nat) (a0_0 : Int) (P0_1_ : Nat → Prop) (A0_1 : Option Addr) (c0_1 : Nat) (l0_1 : List (S44)) (a0_2 : ByteArray) (a1_0 : Int) (A1_1 : Option Addr) (c1_1 : Nat) (l1_1 : List (S24)) (r1 : Int) (r2 : List (S44)) (r3 : ByteArray) (r4 : Int) (w : World) (hs0_1 : Kd.V k44 44 w w.heap.size (fun k_ => P0_1_ k_) (.slice A0_1 l0_1.length c0_1) l0_1) (hr1_1 : Kd.C k24 w A1_1 l1_1.length l1_1) (hc1_1 : l1_1.length ≤ c1_1) (h : journal_Log_with.f k a0_0 l0_1 a0_2 a1_0 l1_1 = some (r1, r2, r3, r4)) (HT : Tabs w) :
  Calls Tryd.prog 62 #[.agg #[.int .u64 a0_0, .slice A0_1 l0_1.length c0_1, .string a0_2], .agg #[.int .u64 a1_0, .slice A1_1 l1_1.length c1_1]] w fun e w' => ∃ v1_ : Value, e = .returned (.tuple #[.agg #[.int .u64 r1, v1_, .string r3], .int .i64 r4]) ∧ Kd.N k44 44 w' w.heap.size (fun k_ => (P0_1_ k_ ∨ w.heap.size ≤ k_)) v1_ r2 ∧ Below w.heap.size w w' := by
 have hu66 := Tryd.underlying66
 have hu44 := Tryd.underlying44
 have HO0_1 := Ax.mk (show Kd.V k44 44 w w.heap.size (fun k_ => (P0_1_ k_ ∨ w.heap.size ≤ k_)) (.slice A0_1 l0_1.length c0_1) l0_1 from Kd.V_mono hs0_1 (fun k_ hk => .inl hk))
 have HR1_1 := Ax.mk hr1_1
 have HC1_1 := Ax.mk hc1_1
 clear hr1_1 hc1_1
 have HB := Ax.mk (Below.refl w.heap.size w)
 have H : ((journal_closed.f k a1_0 l1_1).bind fun bt137 => (if bt137.2 = 0 then ((step_Step.f l1_1).bind fun t139 => ((step_Group.f l0_1).bind fun t142 => ((some (([(⟨a1_0, t139⟩ : S44)] : List (S44)) : List (S44))).bind fun y145 => (if t142.length + y145.length < 4398046511104 then (if a0_2.size + bt137.1.size ≤ 9223372036854775807 then (some (a1_0, (t142 ++ y145), a0_2 ++ bt137.1, 0)) else (none)) else (none))))) else (some (0, ([] : List (S44)), (⟨#[]⟩ : ByteArray), bt137.2)))) = some (r1, r2, r3, r4) := h
 clear h
 replace H := Option.bind_eq_some_iff.mp H
 obtain ⟨⟨t137, t138⟩, A30, H⟩ := H
 replace H : (if t138 = 0 then ((step_Step.f l1_1).bind fun t139 => ((step_Group.f l0_1).bind fun t142 => ((some (([(⟨a1_0, t139⟩ : S44)] : List (S44)) : List (S44))).bind fun y145 => (if t142.length + y145.length < 4398046511104 then (if a0_2.size + t137.size ≤ 9223372036854775807 then (some (a1_0, (t142 ++ y145), a0_2 ++ t137, 0)) else (none)) else (none))))) else (some (0, ([] : List (S44)), (⟨#[]⟩ : ByteArray), t138))) = some (r1, r2, r3, r4) := H
 have A3 := Ax.mk A30
 clear A30
 by_cases c4 : t138 = 0
 ·rw [if_pos c4] at H
  have c4b0 : (t138 == 0) = true := beq_iff_eq.mpr c4
  have c4b1 : (t138 != 0) = false := bne_eq_false_iff_eq.mpr c4
  clear c4
  replace H := Option.bind_eq_some_iff.mp H
  obtain ⟨t139, A50, H⟩ := H
  replace H : ((step_Group.f l0_1).bind fun t142 => ((some (([(⟨a1_0, t139⟩ : S44)] : List (S44)) : List (S44))).bind fun y145 => (if t142.length + y145.length < 4398046511104 then (if a0_2.size + t137.size ≤ 9223372036854775807 then (some (a1_0, (t142 ++ y145), a0_2 ++ t137, 0)) else (none)) else (none)))) = some (r1, r2, r3, r4) := H
  have A5 := Ax.mk A50
  clear A50
  replace H := Option.bind_eq_some_iff.mp H
  obtain ⟨t142, A60, H⟩ := H
  replace H : ((some (([(⟨a1_0, t139⟩ : S44)] : List (S44)) : List (S44))).bind fun y145 => (if t142.length + y145.length < 4398046511104 then (if a0_2.size + t137.size ≤ 9223372036854775807 then (some (a1_0, (t142 ++ y145), a0_2 ++ t137, 0)) else (none)) else (none))) = some (r1, r2, r3, r4) := H
  have A6 := Ax.mk A60
  clear A60
  obtain ⟨y145, hy145⟩ : ∃ y_ : List (S44), y_ = (([(⟨a1_0, t139⟩ : S44)] : List (S44))) := ⟨_, rfl⟩
  replace H : (if t142.length + y145.length < 4398046511104 then (if a0_2.size + t137.size ≤ 9223372036854775807 then (some (a1_0, (t142 ++ y145), a0_2 ++ t137, 0)) else (none)) else (none)) = some (r1, r2, r3, r4) := by first | (rw [hy145]; with_reducible exact H) | (have H2_ := (Option.bind_some _ _).symm.trans H; rw [hy145]; with_reducible exact H2_) | (have H2_ := (Option.bind_some _ _).symm.trans H; with_reducible exact H2_) | with_reducible exact H | (rw [hy145]; exact H) | exact H
  have Ny145 := Ax.mk hy145
  clear hy145
  by_cases c7 : t142.length + y145.length < 4398046511104
  ·rw [if_pos c7] at H
   have LMc7 := Ax.mk c7
   clear c7
   obtain ⟨y148, hy148⟩ : ∃ y_ : List (S44), y_ = (t142 ++ y145) := ⟨_, rfl⟩
   replace H : (if a0_2.size + t137.size ≤ 9223372036854775807 then (some (a1_0, y148, a0_2 ++ t137, 0)) else (none)) = some (r1, r2, r3, r4) := by first | (rw [hy148]; with_reducible exact H) | (have H2_ := (Option.bind_some _ _).symm.trans H; rw [hy148]; with_reducible exact H2_) | (have H2_ := (Option.bind_some _ _).symm.trans H; with_reducible exact H2_) | with_reducible exact H | (rw [hy148]; exact H) | exact H
   have Ny148 := Ax.mk hy148
   clear hy148
   by_cases c8 : a0_2.size + t137.size ≤ 9223372036854775807
   ·rw [if_pos c8] at H
    have c8b0 := eq_true c8
    have c8b1 : decide (a0_2.size + t137.size ≤ 9223372036854775807) = true := decide_eq_true c8
    try have c8b2 : (9223372036854775807 < a0_2.size + t137.size) = False := eq_false (Nat.not_lt.2 c8)
    simp only [Option.some.injEq, Prod.mk.injEq] at H
    obtain ⟨rfl, rfl, rfl, rfl⟩ := H
    go_enter Tryd.func62, Tryd.ntmps62
    try go_wp2_with (first | ((with_reducible refine gate_dst (N := 2) rfl ?_); refine box_event ?hg (N := 2) ?hd (cs := #[.int .u64 a0_0, .slice A0_1 l0_1.length c0_1, .string a0_2]) (t := 66) ?hr ?_; (case hd => rfl); (case hg => rfl); (case hr => first | (go_simp; done) | (go_simp; rfl)); intro gb134 hg w9 hbox hb; have n0_ := Ax.mk (Kd.V_below (Kd.V_elderB (by exact Kd.V_to HO0_1.out) gb134 (Nat.le_of_eq hg.symm)) hb); have n1_ := Ax.mk (bP bA hb); have n2_ := Ax.mk (hbox); have n3_ := Ax.mk ((ge_new hg : w.heap.size ≤ gb134)); have n4_ := n3_; clear HO0_1; clear HB; have HO0_1 := n0_; have HB := n1_; have BK134 := n2_; have GW134 := n3_; have GE134 := n4_; clear n0_ n1_ n2_ n3_ n4_; clear hb hbox hg) | ((with_reducible refine gate_dst (N := 3) rfl ?_); refine box_event ?hg (N := 3) ?hd (cs := #[.int .u64 a1_0, .slice A1_1 l1_1.length c1_1]) (t := 44) ?hr ?_; (case hd => rfl); (case hg => rfl); (case hr => first | (go_simp; done) | (go_simp; rfl)); intro gb135 hg w10 hbox hb; have n0_ := Ax.mk (Kd.V_below (Kd.V_elderB (by exact Kd.V_to HO0_1.out) gb135 (Nat.le_of_eq hg.symm)) hb); have n1_ := Ax.mk (bB (bT BK134.out) hb); have n2_ := Ax.mk (bP bA hb); have n3_ := Ax.mk (hbox); have n4_ := Ax.mk ((ge_new hg : w.heap.size ≤ gb135)); have n5_ := n4_; have n6_ := Ax.mk ((ne_lt hg BK134.out : gb134 ≠ gb135)); have n7_ := Ax.mk ((ne_gt hg BK134.out : gb135 ≠ gb134)); clear HO0_1; clear BK134; clear HB; have HO0_1 := n0_; have BK134 := n1_; have HB := n2_; have BK135 := n3_; have GW135 := n4_; have GE135 := n5_; have NB134_135 := n6_; have NB135_134 := n7_; clear n0_ n1_ n2_ n3_ n4_ n5_ n6_ n7_; clear hb hbox hg) | ((with_reducible refine gate_dst (N := 4) rfl ?_); refine box_event ?hg (N := 4) ?hd (cs := #[.int .u64 0, .slice none 0 0, .string (⟨#[]⟩ : ByteArray)]) (t := 66) ?hr ?_; (case hd => rfl); (case hg => rfl); (case hr => first | (go_simp; done) | (go_simp; rfl)); intro gb136 hg w11 hbox hb; have n0_ := Ax.mk (Kd.V_below (Kd.V_elderB (by exact Kd.V_to HO0_1.out) gb136 (Nat.le_of_eq hg.symm)) hb); have n1_ := Ax.mk (bB (bT BK134.out) hb); have n2_ := Ax.mk (bB (bT BK135.out) hb); have n3_ := Ax.mk (bP bA hb); have n4_ := Ax.mk (hbox); have n5_ := Ax.mk ((ge_new hg : w.heap.size ≤ gb136)); have n6_ := n5_; have n7_ := Ax.mk ((ne_lt hg BK134.out : gb134 ≠ gb136)); have n8_ := Ax.mk ((ne_gt hg BK134.out : gb136 ≠ gb134)); have n9_ := Ax.mk ((ne_lt hg BK135.out : gb135 ≠ gb136)); have n10_ := Ax.mk ((ne_gt hg BK135.out : gb136 ≠ gb135)); clear HO0_1; clear BK134; clear BK135; clear HB; have HO0_1 := n0_; have BK134 := n1_; have BK135 := n2_; have HB := n3_; have BK136 := n4_; have GW136 := n5_; have GE136 := n6_; have NB134_136 := n7_; have NB136_134 := n8_; have NB135_136 := n9_; have NB136_135 := n10_; clear n0_ n1_ n2_ n3_ n4_ n5_ n6_ n7_ n8_ n9_ n10_; clear hb hbox hg; have hnb12 := NB135_134.out; have hnc12 := NB134_135.out; have hnb13 := NB135_136.out; have hnc13 := NB136_135.out; have hcz14_0 : w11.cell? ⟨gb135, 0, none⟩ = some (.int .u64 a1_0) := (bC BK135.out 0).trans rfl; have hcz14_1 : w11.cell? ⟨gb135, 1, none⟩ = some (.slice A1_1 l1_1.length c1_1) := (bC BK135.out 1).trans rfl; have hfz14_0 := bF BK135.out 0; have hfz14_1 := bF BK135.out 1) | ((with_reducible refine gate_callee (f := 74) rfl ?_); refine goesL_ (some 10) rfl rfl Tryd.func74 (by kernel_rfl) rfl #[.agg #[.int .u64 a1_0, .slice A1_1 l1_1.length c1_1]] rfl (by (try simp only [List.map_toArray, List.map_cons, List.map_nil]); first | done | rfl | (simp only [List.length_drop, List.length_take]; rfl) | (rw [wrap_sum2 (by assumption)]; rfl)) ?_; (with_reducible refine (journal_closed.calls k a1_0 _ _ l1_1 t137 t138 _ ?side1 ?side2 A3.out (HT.below bA)).mono ?_); (case side1 => repeat (first | exact (Kd.C_below HR1_1.out HB.out) | (with_reducible refine Kd.C_alloc ?_ _) | (with_reducible refine Kd.C_drewN ?_ _) | (with_reducible refine Kd.C_drew ?_))); (case side2 => exact HC1_1.out); rintro e w15 ⟨rfl, hb⟩; refine ⟨_, rfl, ?_⟩; have n0_ := Ax.mk (Kd.V_below (by exact Kd.V_to HO0_1.out) hb); have n1_ := Ax.mk (bB (bT BK134.out) hb); have n2_ := Ax.mk (bB (bT BK135.out) hb); have n3_ := Ax.mk (bB (bT BK136.out) hb); have n4_ := Ax.mk (bP bA hb); clear HO0_1; clear BK134; clear BK135; clear BK136; clear HB; have HO0_1 := n0_; have BK134 := n1_; have BK135 := n2_; have BK136 := n3_; have HB := n4_; clear n0_ n1_ n2_ n3_ n4_; (try clear hb); (try clear hb2); (try clear hk); (try clear hi); have hcz16_0 : w15.cell? ⟨gb135, 0, none⟩ = some (.int .u64 a1_0) := (bC BK135.out 0).trans rfl; have hcz16_1 : w15.cell? ⟨gb135, 1, none⟩ = some (.slice A1_1 l1_1.length c1_1) := (bC BK135.out 1).trans rfl; have hfz16_0 := bF BK135.out 0; have hfz16_1 := bF BK135.out 1) | ((with_reducible refine gate_callee (f := 53) rfl ?_); refine goesL_ (some 19) rfl rfl Tryd.func53 (by kernel_rfl) rfl #[.slice A1_1 l1_1.length c1_1] rfl (by (try simp only [List.map_toArray, List.map_cons, List.map_nil]); first | done | rfl | (simp only [List.length_drop, List.length_take]; rfl) | (rw [wrap_sum2 (by assumption)]; rfl)) ?_; (with_reducible refine (step_Step.calls _ _ l1_1 t139 _ ?side1 ?side2 A5.out).mono ?_); (case side1 => repeat (first | exact (Kd.C_below HR1_1.out HB.out) | (with_reducible refine Kd.C_alloc ?_ _) | (with_reducible refine Kd.C_drewN ?_ _) | (with_reducible refine Kd.C_drew ?_))); (case side2 => exact HC1_1.out); rintro e w17 ⟨v140, rfl, ho0, hb⟩; refine ⟨_, rfl, ?_⟩; have n0_ := Ax.mk (Kd.V_elder' (by exact Kd.V_to HO0_1.out) (Kd.R_base ho0) hb); have n1_ := Ax.mk (Kd.R_lower (Kd.R_newM (M := fun k_ => (w.heap.size ≤ k_)) ho0 (bS bA) (fun k_ h_ => h_)) (bS bA)); have n2_ := Ax.mk (bB (bT BK134.out) hb); have n3_ := Ax.mk (bB (bT BK135.out) hb); have n4_ := Ax.mk (bB (bT BK136.out) hb); have n5_ := Ax.mk (bP bA hb); clear HO0_1; clear BK134; clear BK135; clear BK136; clear HB; have HO0_1 := n0_; have HO141 := n1_; have BK134 := n2_; have BK135 := n3_; have BK136 := n4_; have HB := n5_; clear n0_ n1_ n2_ n3_ n4_ n5_; (try clear hb); (try clear hb2); (try clear hk); (try clear hi); (try clear ho0); obtain ⟨Ao18, co18, eo18⟩ := Kd.R_slice HO141.out; subst eo18; have hcz19_0 : w17.cell? ⟨gb135, 0, none⟩ = some (.int .u64 a1_0) := (bC BK135.out 0).trans rfl; have hcz19_1 : w17.cell? ⟨gb135, 1, none⟩ = some (.slice A1_1 l1_1.length c1_1) := (bC BK135.out 1).trans rfl; have hfz19_0 := bF BK135.out 0; have hfz19_1 := bF BK135.out 1))
    have n0_ : Ax (Kd.V k44 44 (w17.setCell ⟨gb135, 1, none⟩ (.slice Ao18 t139.length co18)) w.heap.size (fun k_ => (P0_1_ k_ ∨ w.heap.size ≤ k_) ∧ some k_ ≠ (.slice Ao18 t139.length co18 : Value).ownBlock ∧ k_ ≠ gb134 ∧ k_ ≠ gb135 ∧ k_ ≠ gb136) (.slice A0_1 l0_1.length c0_1) l0_1) := ⟨by apply Kd.V_to; exact Kd.V_mono (Kd.V_far (p := ⟨gb135, 1, none⟩) (Kd.V_mono HO0_1.out (fun k_ hk => (⟨hk, hk.1.1.2⟩ : _ ∧ k_ ≠ gb135))) (fun _ hk => hk.2) (.slice Ao18 t139.length co18)) (fun _ hk => ⟨hk.1.1.1.1.1, ⟨hk.1.2, ⟨hk.1.1.1.1.2, ⟨hk.1.1.1.2, hk.1.1.2⟩⟩⟩⟩)⟩
    have n1_ : Ax (Kd.R k24 24 (w17.setCell ⟨gb135, 1, none⟩ (.slice Ao18 t139.length co18)) w.heap.size (fun k_ => (w.heap.size ≤ k_)) (.slice Ao18 t139.length co18) t139) := ⟨by apply Kd.R_to; exact Kd.R_mono (Kd.R_far (p := ⟨gb135, 1, none⟩) (Kd.R_types HO141.out BK135.out (by decide)) (fun _ hk => hk.2) (.slice Ao18 t139.length co18)) (fun _ hk => hk.1.1)⟩
    have n2_ : Ax ((w17.setCell ⟨gb135, 1, none⟩ (.slice Ao18 t139.length co18)).heap[gb134]? = some (.cells #[.int .u64 a0_0, .slice A0_1 l0_1.length c0_1, .string a0_2] 66 (0, 0))) := ⟨by refine bT ?_; refine bR ?_ NB134_135.out _; refine bT ?_; exact BK134.out⟩
    have n3_ : Ax ((w17.setCell ⟨gb135, 1, none⟩ (.slice Ao18 t139.length co18)).heap[gb135]? = some (.cells #[.int .u64 a1_0, .slice Ao18 t139.length co18] 44 (0, 0))) := ⟨by refine bT ?_; refine bU (cs := #[.int .u64 a1_0, .slice A1_1 l1_1.length c1_1]) ?_ 1 _ rfl; refine bT ?_; exact BK135.out⟩
    have n4_ : Ax ((w17.setCell ⟨gb135, 1, none⟩ (.slice Ao18 t139.length co18)).heap[gb136]? = some (.cells #[.int .u64 0, .slice none 0 0, .string (⟨#[]⟩ : ByteArray)] 66 (0, 0))) := ⟨by refine bT ?_; refine bR ?_ NB136_135.out _; refine bT ?_; exact BK136.out⟩
    have n5_ : Ax (Below w.heap.size w (w17.setCell ⟨gb135, 1, none⟩ (.slice Ao18 t139.length co18))) := ⟨bA⟩
    (try clear HO0_1)
    (try clear HO141)
    (try clear BK134)
    (try clear BK135)
    (try clear BK136)
    (try clear HB)
    generalize (w17.setCell ⟨gb135, 1, none⟩ (.slice Ao18 t139.length co18)) = w20 at n0_ n1_ n2_ n3_ n4_ n5_ ⊢
    have HO0_1 := n0_
    have HO141 := n1_
    have BK134 := n2_
    have BK135 := n3_
    have BK136 := n4_
    have HB := n5_
    clear n0_ n1_ n2_ n3_ n4_ n5_
    have n0_ := Ax.mk (Kd.V_drew HO0_1.out)
    have n1_ := Ax.mk (Kd.R_drew HO141.out)
    have n2_ := Ax.mk (blk_drew BK134.out)
    have n3_ := Ax.mk (blk_drew BK135.out)
    have n4_ := Ax.mk (blk_drew BK136.out)
    have n5_ := Ax.mk (below_drew1 HB.out)
    clear HO0_1
    clear HO141
    clear BK134
    clear BK135
    clear BK136
    clear HB
    have HO0_1 := n0_
    have HO141 := n1_
    have BK134 := n2_
    have BK135 := n3_
    have BK136 := n4_
    have HB := n5_
    clear n0_ n1_ n2_ n3_ n4_ n5_
    refine start_ (n := 15) (S := fun w' => w'.cell? ⟨gb135, 0, none⟩ = some (.int .u64 a1_0) ∧ w'.cell? ⟨gb135, 1, none⟩ = some (.slice Ao18 t139.length co18) ∧ w'.cell? ⟨gb134, 0, none⟩ = some (.int .u64 a0_0) ∧ w'.cell? ⟨gb134, 1, none⟩ = some (.slice A0_1 l0_1.length c0_1) ∧ w'.cell? ⟨gb134, 2, none⟩ = some (.string a0_2)) (ds := []) #[false, false, false, false, false, false, false, false, false, false, false, false, false, false, false] (by kernel_rfl) rfl rfl ⟨(bC BK135.out 0).trans rfl, (bC BK135.out 1).trans rfl, (bC BK134.out 0).trans rfl, (bC BK134.out 1).trans rfl, (bC BK134.out 2).trans rfl⟩ (fun hHeld => ?_); refine with_tabW journal_Log_with.tab5 journal_Log_with.bits5 (fun HT_ HW_ => ?_)
    generalize w20.drew = w21 at HO0_1 HO141 BK134 BK135 BK136 HB hHeld ⊢
    refine pure_ (i := 0) (N := some 21) (v := ?_) (a' := ?_) #[true, false, false, false, false, false, false, false, false, false, false, false, false, false, false] rfl rfl (any_of HT_.out (by kernel_rfl)) (fun _ _ _ h => h) (Or.inl ⟨by rfl, ?_⟩) ?_ ?_
    rotate_left
    ·intro w'
     go_simp
     with_reducible rfl
    rotate_left
    ·simp only [Act.put, setIfInBounds_toArray, set_cons_zero, set_cons_succ, i64_w, i32_w]
     rfl
    refine pure_ (i := 2) (N := some 23) (v := ?_) (a' := ?_) #[true, false, true, false, false, false, false, false, false, false, false, false, false, false, false] rfl rfl (any_of HT_.out (by kernel_rfl)) (fun _ _ _ h => h) (Or.inl ⟨by rfl, ?_⟩) ?_ ?_
    rotate_left
    ·intro w'
     go_simp
     with_reducible rfl
    rotate_left
    ·simp only [Act.put, setIfInBounds_toArray, set_cons_zero, set_cons_succ, i64_w, i32_w]
     rfl
    refine pure_ (i := 8) (N := some 29) (v := ?_) (a' := ?_) #[true, false, true, false, false, false, false, false, true, false, false, false, false, false, false] rfl rfl (any_of HT_.out (by kernel_rfl)) (fun _ _ _ h => h) (Or.inl ⟨by rfl, ?_⟩) ?_ ?_
    rotate_left
    ·intro w'
     go_simp
     with_reducible rfl
    rotate_left
    ·simp only [Act.put, setIfInBounds_toArray, set_cons_zero, set_cons_succ, i64_w, i32_w]
     rfl
    refine pure_ (i := 10) (N := some 31) (v := ?_) (a' := ?_) #[true, false, true, false, false, false, false, false, true, false, true, false, false, false, false] rfl rfl (any_of HT_.out (by kernel_rfl)) (fun _ _ _ h => h) (Or.inl ⟨by rfl, ?_⟩) ?_ ?_
    rotate_left
    ·intro w'
     go_simp
     with_reducible rfl
    rotate_left
    ·simp only [Act.put, setIfInBounds_toArray, set_cons_zero, set_cons_succ, i64_w, i32_w]
     rfl
    refine take_ (i := 1) (N := some 22) (v := ?_) (a' := ?_) #[true, true, true, false, false, false, false, false, true, false, true, false, false, false, false] rfl rfl (take_ofW HT_.out HW_.out (by kernel_rfl)) (fun _ _ _ h => h) (Or.inl ⟨by rfl, ?_⟩) hHeld ?_ ?_
    rotate_left
    ·rintro w' ⟨s0, s1, s2, s3, s4⟩
     go_simp
     with_reducible rfl
    rotate_left
    ·simp only [Act.put, setIfInBounds_toArray, set_cons_zero, set_cons_succ, i64_w, i32_w]
     rfl
    refine take_ (i := 3) (N := some 24) (v := ?_) (a' := ?_) #[true, true, true, true, false, false, false, false, true, false, true, false, false, false, false] rfl rfl (take_ofW HT_.out HW_.out (by kernel_rfl)) (fun _ _ _ h => h) (Or.inl ⟨by rfl, ?_⟩) hHeld ?_ ?_
    rotate_left
    ·rintro w' ⟨s0, s1, s2, s3, s4⟩
     go_simp
     with_reducible rfl
    rotate_left
    ·simp only [Act.put, setIfInBounds_toArray, set_cons_zero, set_cons_succ, i64_w, i32_w]
     rfl
    refine take_ (i := 5) (N := some 26) (v := ?_) (a' := ?_) #[true, true, true, true, false, true, false, false, true, false, true, false, false, false, false] rfl rfl (take_ofW HT_.out HW_.out (by kernel_rfl)) (fun _ _ _ h => h) (Or.inl ⟨by rfl, ?_⟩) hHeld ?_ ?_
    rotate_left
    ·rintro w' ⟨s0, s1, s2, s3, s4⟩
     go_simp
     with_reducible rfl
    rotate_left
    ·simp only [Act.put, setIfInBounds_toArray, set_cons_zero, set_cons_succ, i64_w, i32_w]
     rfl
    refine take_ (i := 9) (N := some 30) (v := ?_) (a' := ?_) #[true, true, true, true, false, true, false, false, true, true, true, false, false, false, false] rfl rfl (take_ofW HT_.out HW_.out (by kernel_rfl)) (fun _ _ _ h => h) (Or.inl ⟨by rfl, ?_⟩) hHeld ?_ ?_
    rotate_left
    ·rintro w' ⟨s0, s1, s2, s3, s4⟩
     go_simp
     with_reducible rfl
    rotate_left
    ·simp only [Act.put, setIfInBounds_toArray, set_cons_zero, set_cons_succ, i64_w, i32_w]
     rfl
    refine pure_ (i := 11) (N := some 32) (v := ?_) (a' := ?_) #[true, true, true, true, false, true, false, false, true, true, true, true, false, false, false] rfl rfl (any_of HT_.out (by kernel_rfl)) (fun _ _ _ h => h) (Or.inl ⟨by rfl, ?_⟩) ?_ ?_
    rotate_left
    ·intro w'
     go_simp
     with_reducible rfl
    rotate_left
    ·simp only [Act.put, setIfInBounds_toArray, set_cons_zero, set_cons_succ, i64_w, i32_w]
     rfl
    refine join_ (σ := Value × Value) 4 #[true, true, true, true, true, true, true, false, true, true, true, true, false, false, false] (fun s_ => [(25, s_.1), (27, s_.2)]) (fun s_ w' => (w'.cell? ⟨gb135, 0, none⟩ = some (.int .u64 a1_0) ∧ w'.cell? ⟨gb135, 1, none⟩ = some (.slice Ao18 t139.length co18) ∧ w'.cell? ⟨gb134, 0, none⟩ = some (.int .u64 a0_0) ∧ w'.cell? ⟨gb134, 1, none⟩ = some (.slice A0_1 l0_1.length c0_1) ∧ w'.cell? ⟨gb134, 2, none⟩ = some (.string a0_2)) ∧ (Kd.V k44 44 w' w.heap.size (fun k_ => (P0_1_ k_ ∨ w.heap.size ≤ k_) ∧ some k_ ≠ (s_.1 : Value).ownBlock ∧ some k_ ≠ (s_.2 : Value).ownBlock ∧ k_ ≠ gb134 ∧ k_ ≠ gb135 ∧ k_ ≠ gb136) (.slice A0_1 l0_1.length c0_1) l0_1) ∧ (Kd.N k44 44 w' w.heap.size (fun k_ => (P0_1_ k_ ∨ w.heap.size ≤ k_) ∧ some k_ ≠ (s_.2 : Value).ownBlock ∧ k_ ≠ gb134 ∧ k_ ≠ gb135 ∧ k_ ≠ gb136) s_.1 t142) ∧ (Kd.N k44 44 w' w.heap.size (fun k_ => (P0_1_ k_ ∨ w.heap.size ≤ k_) ∧ some k_ ≠ (s_.1 : Value).ownBlock ∧ k_ ≠ gb134 ∧ k_ ≠ gb135 ∧ k_ ≠ gb136) s_.2 y145) ∧ (w'.heap[gb134]? = some (.cells #[.int .u64 a0_0, .slice A0_1 l0_1.length c0_1, .string a0_2] 66 (0, 0))) ∧ (w'.heap[gb135]? = some (.cells #[.int .u64 a1_0, .slice Ao18 t139.length co18] 44 (0, 0))) ∧ (w'.heap[gb136]? = some (.cells #[.int .u64 0, .slice none 0 0, .string (⟨#[]⟩ : ByteArray)] 66 (0, 0))) ∧ (Below w.heap.size w w')) ?_ ?_
    rotate_left
    ·intro hCont
     refine two_ (i := 4) (j := 6) (Ni := some 25) (Nj := some 27) #[true, true, true, true, true, true, false, false, true, true, true, true, false, false, false] #[true, true, true, true, false, true, true, false, true, true, true, true, false, false, false] rfl rfl rfl rfl (two_of HT_.out (by kernel_rfl)) (by decide) (by decide) (fun K hK => ?_) (fun K hK => ?_)
     ·skip
      refine goes_ Tryd.func75 (by kernel_rfl) rfl #[.slice A0_1 l0_1.length c0_1] (by rfl) rfl rfl (by (try simp only [List.map_toArray, List.map_cons, List.map_nil]); first | done | rfl | (simp only [List.length_drop, List.length_take]; rfl) | (rw [wrap_sum2 (by assumption)]; rfl)) ?_
      with_reducible refine (step_Group.calls (fun k_ => ((P0_1_ k_ ∨ w.heap.size ≤ k_) ∧ (some k_ ≠ (.slice Ao18 t139.length co18 : Value).ownBlock ∧ (k_ ≠ gb134 ∧ (k_ ≠ gb135 ∧ k_ ≠ gb136))))) _ _ l0_1 t142 _ ?side1 A6.out).mono ?_
      (case side1 => exact HO0_1.out)
      rintro e w22 ⟨v143, rfl, ho0, hb⟩
      refine ⟨_, rfl, ?_⟩
      have n0_ := Ax.mk (Kd.V_elder' (by exact Kd.V_to HO0_1.out) (Kd.N_base ho0) hb)
      have n1_ := Ax.mk (Kd.R_below (by exact Kd.R_to HO141.out) hb)
      have n2_ := Ax.mk (Kd.N_lower (Kd.N_mono (ok' := fun k_ => (P0_1_ k_ ∨ w.heap.size ≤ k_) ∧ some k_ ≠ (.slice Ao18 t139.length co18 : Value).ownBlock ∧ k_ ≠ gb134 ∧ k_ ≠ gb135 ∧ k_ ≠ gb136) ho0 (fun k_ hk_ => ⟨Or.elim hk_ (fun hs_ => hs_.1) (fun hn_ => (.inr (Nat.le_trans (bS bA) hn_))), Or.elim hk_ (fun hs_ => hs_.2.1) (fun hn_ => (Kd.fresh' (Kd.R_lt (by exact Kd.R_to HO141.out)) k_ hn_)), Or.elim hk_ (fun hs_ => hs_.2.2.1) (fun hn_ => (Kd.freshB (g := gb134) (o := .cells #[.int .u64 a0_0, .slice A0_1 l0_1.length c0_1, .string a0_2] 66 (0, 0)) (bT BK134.out) k_ hn_)), Or.elim hk_ (fun hs_ => hs_.2.2.2.1) (fun hn_ => (Kd.freshB (g := gb135) (o := .cells #[.int .u64 a1_0, .slice Ao18 t139.length co18] 44 (0, 0)) (bT BK135.out) k_ hn_)), Or.elim hk_ (fun hs_ => hs_.2.2.2.2) (fun hn_ => (Kd.freshB (g := gb136) (o := .cells #[.int .u64 0, .slice none 0 0, .string (⟨#[]⟩ : ByteArray)] 66 (0, 0)) (bT BK136.out) k_ hn_))⟩)) (bS bA))
      have n3_ := Ax.mk (bB (bT BK134.out) hb)
      have n4_ := Ax.mk (bB (bT BK135.out) hb)
      have n5_ := Ax.mk (bB (bT BK136.out) hb)
      have n6_ := Ax.mk (bP bA hb)
      clear HO0_1
      clear HO141
      clear BK134
      clear BK135
      clear BK136
      clear HB
      have HO0_1 := n0_
      have HO141 := n1_
      have HO144 := n2_
      have BK134 := n3_
      have BK135 := n4_
      have BK136 := n5_
      have HB := n6_
      clear n0_ n1_ n2_ n3_ n4_ n5_ n6_
      (try clear hb)
      (try clear hb2)
      (try clear hk)
      (try clear hi)
      (try clear ho0)
      refine hK.out _ _ ⟨(bC BK135.out 0).trans rfl, (bC BK135.out 1).trans rfl, (bC BK134.out 0).trans rfl, (bC BK134.out 1).trans rfl, (bC BK134.out 2).trans rfl⟩ (fun hHeld => ?_)
      clear hK K
      refine norm_ (a' := ?_) ?_ ?_
      rotate_left
      ·show Act.put _ (some 25) _ = _
       simp only [Act.put, setIfInBounds_toArray, set_cons_zero, set_cons_succ, i64_w, i32_w]
       rfl
      refine one_ (i := 6) (N := some 27) #[true, true, true, true, true, true, true, false, true, true, true, true, false, false, false] rfl rfl (one_of HT_.out (by kernel_rfl)) (by decide) (fun K hK => ?_)
      refine Kd.N_lit_step k44 _ 44 ?hg (N' := 27) ?hd (xs := ([(⟨a1_0, t139⟩ : S44)] : List (S44))) (inner := [.int .u64 a1_0, .slice Ao18 t139.length co18]) (ok := (fun k_ => (P0_1_ k_ ∨ w.heap.size ≤ k_) ∧ some k_ ≠ (v143 : Value).ownBlock ∧ k_ ≠ gb134 ∧ k_ ≠ gb135 ∧ k_ ≠ gb136)) (okp := (fun k_ => (P0_1_ k_ ∨ w.heap.size ≤ k_) ∧ some k_ ≠ (v143 : Value).ownBlock ∧ k_ ≠ gb134 ∧ k_ ≠ gb135 ∧ k_ ≠ gb136)) ?hr ?hp (fun _ hk => hk) ((show ∀ k_, w22.heap.size ≤ k_ → (fun k_ => (P0_1_ k_ ∨ w.heap.size ≤ k_) ∧ some k_ ≠ (v143 : Value).ownBlock ∧ k_ ≠ gb134 ∧ k_ ≠ gb135 ∧ k_ ≠ gb136) k_ from fun k_ hk => ⟨(.inr (Nat.le_trans (bS bA) hk)), Kd.fresh' (Kd.N_lt (by exact Kd.N_to HO144.out)) k_ hk, Kd.freshB (g := gb134) (o := .cells #[.int .u64 a0_0, .slice A0_1 l0_1.length c0_1, .string a0_2] 66 (0, 0)) (bT BK134.out) k_ hk, Kd.freshB (g := gb135) (o := .cells #[.int .u64 a1_0, .slice Ao18 t139.length co18] 44 (0, 0)) (bT BK135.out) k_ hk, Kd.freshB (g := gb136) (o := .cells #[.int .u64 0, .slice none 0 0, .string (⟨#[]⟩ : ByteArray)] 66 (0, 0)) (bT BK136.out) k_ hk⟩) _ (Nat.le_refl _)) (Below.refl _ _) (Nat.le_refl _) (by simp) ?_; (case hd => rfl); (case hg => rfl); (case hr => first | (go_simp; done) | (go_simp; rfl)); (case hp => exact (Reps.c2 (show Kd.FK k44 _ _ (⟨a1_0, t139⟩ : S44) [.int .u64 a1_0, .slice Ao18 t139.length co18] from (k44_mkF _ _ (⟨a1_0, t139⟩ : S44) (Kd.R_reads' (Kd.R_mono (ok' := (fun k_ => (P0_1_ k_ ∨ w.heap.size ≤ k_) ∧ some k_ ≠ (v143 : Value).ownBlock ∧ k_ ≠ gb134 ∧ k_ ≠ gb135 ∧ k_ ≠ gb136)) (Kd.R_types (Kd.R_types (Kd.R_types (Kd.R_apart' (HO141.out) (Kd.N_typed HO144.out) (by decide)) BK134.out (by decide)) BK135.out (by decide)) BK136.out (by decide)) (fun k_ hk => ⟨(.inr (hk.1.1.1.1)), ⟨hk.1.1.1.2, ⟨hk.1.1.2, ⟨hk.1.2, hk.2⟩⟩⟩⟩))).2.1 (Kd.R_F (Kd.R_mono (ok' := (fun k_ => (P0_1_ k_ ∨ w.heap.size ≤ k_) ∧ some k_ ≠ (v143 : Value).ownBlock ∧ k_ ≠ gb134 ∧ k_ ≠ gb135 ∧ k_ ≠ gb136)) (Kd.R_types (Kd.R_types (Kd.R_types (Kd.R_apart' (HO141.out) (Kd.N_typed HO144.out) (by decide)) BK134.out (by decide)) BK135.out (by decide)) BK136.out (by decide)) (fun k_ hk => ⟨(.inr (hk.1.1.1.1)), ⟨hk.1.1.1.2, ⟨hk.1.1.2, ⟨hk.1.2, hk.2⟩⟩⟩⟩))))) (Reps.none _ _)))
      intro v146 w23 ho24 hb hg_ hnew_
      clear hg_ hnew_
      (first | rw [← Ny145.out] at ho24 | (simp only [Int.reduceToNat] at ho24; rw [← Ny145.out] at ho24))
      have n0_ := Ax.mk (Kd.V_elder' (by exact Kd.V_to HO0_1.out) (Kd.N_base ho24) hb)
      have n1_ := Ax.mk (Kd.N_elder' (by exact Kd.N_to HO144.out) (Kd.N_base ho24) hb)
      have n2_ := Ax.mk (Kd.N_lower ho24 (bS bA))
      have n3_ := Ax.mk (bB (bT BK134.out) hb)
      have n4_ := Ax.mk (bB (bT BK135.out) hb)
      have n5_ := Ax.mk (bB (bT BK136.out) hb)
      have n6_ := Ax.mk (bP bA hb)
      clear HO0_1
      clear HO144
      clear BK134
      clear BK135
      clear BK136
      clear HB
      clear HO141
      have HO0_1 := n0_
      have HO144 := n1_
      have HO147 := n2_
      have BK134 := n3_
      have BK135 := n4_
      have BK136 := n5_
      have HB := n6_
      clear n0_ n1_ n2_ n3_ n4_ n5_ n6_
      clear hb ho24
      refine hK.out _ _ ⟨(bC BK135.out 0).trans rfl, (bC BK135.out 1).trans rfl, (bC BK134.out 0).trans rfl, (bC BK134.out 1).trans rfl, (bC BK134.out 2).trans rfl⟩ (fun hHeld => ?_)
      clear hK K
      refine norm_ (a' := ?_) ?_ ?_
      rotate_left
      ·show Act.put _ (some 27) _ = _
       simp only [Act.put, setIfInBounds_toArray, set_cons_zero, set_cons_succ, i64_w, i32_w]
       rfl
      exact norm_ (by simp only [putAll, Act.put, List.setIfInBounds_toArray, List.set_cons_zero, List.set_cons_succ]) (hCont (v143, v146) _ ⟨hHeld, (by apply Kd.V_to; exact Kd.V_mono HO0_1.out (fun _ hk => ⟨hk.1.1.1, ⟨hk.1.2, ⟨hk.2, ⟨hk.1.1.2.2.1, ⟨hk.1.1.2.2.2.1, hk.1.1.2.2.2.2⟩⟩⟩⟩⟩)), (by apply Kd.N_to; exact Kd.N_mono HO144.out (fun _ hk => ⟨hk.1.1, ⟨hk.2, ⟨hk.1.2.2.1, ⟨hk.1.2.2.2.1, hk.1.2.2.2.2⟩⟩⟩⟩)), (by exact Kd.N_to HO147.out), (bT BK134.out), (bT BK135.out), (bT BK136.out), bA⟩)
     ·skip
      refine Kd.N_lit_step k44 _ 44 ?hg (N' := 27) ?hd (xs := ([(⟨a1_0, t139⟩ : S44)] : List (S44))) (inner := [.int .u64 a1_0, .slice Ao18 t139.length co18]) (ok := (fun k_ => (P0_1_ k_ ∨ w.heap.size ≤ k_) ∧ k_ ≠ gb134 ∧ k_ ≠ gb135 ∧ k_ ≠ gb136)) (okp := (fun k_ => (P0_1_ k_ ∨ w.heap.size ≤ k_) ∧ k_ ≠ gb134 ∧ k_ ≠ gb135 ∧ k_ ≠ gb136)) ?hr ?hp (fun _ hk => hk) ((show ∀ k_, w21.heap.size ≤ k_ → (fun k_ => (P0_1_ k_ ∨ w.heap.size ≤ k_) ∧ k_ ≠ gb134 ∧ k_ ≠ gb135 ∧ k_ ≠ gb136) k_ from fun k_ hk => ⟨(.inr (Nat.le_trans (bS bA) hk)), Kd.freshB (g := gb134) (o := .cells #[.int .u64 a0_0, .slice A0_1 l0_1.length c0_1, .string a0_2] 66 (0, 0)) (bT BK134.out) k_ hk, Kd.freshB (g := gb135) (o := .cells #[.int .u64 a1_0, .slice Ao18 t139.length co18] 44 (0, 0)) (bT BK135.out) k_ hk, Kd.freshB (g := gb136) (o := .cells #[.int .u64 0, .slice none 0 0, .string (⟨#[]⟩ : ByteArray)] 66 (0, 0)) (bT BK136.out) k_ hk⟩) _ (Nat.le_refl _)) (Below.refl _ _) (Nat.le_refl _) (by simp) ?_; (case hd => rfl); (case hg => rfl); (case hr => first | (go_simp; done) | (go_simp; rfl)); (case hp => exact (Reps.c2 (show Kd.FK k44 _ _ (⟨a1_0, t139⟩ : S44) [.int .u64 a1_0, .slice Ao18 t139.length co18] from (k44_mkF _ _ (⟨a1_0, t139⟩ : S44) (Kd.R_reads' (Kd.R_mono (ok' := (fun k_ => (P0_1_ k_ ∨ w.heap.size ≤ k_) ∧ k_ ≠ gb134 ∧ k_ ≠ gb135 ∧ k_ ≠ gb136)) (Kd.R_types (Kd.R_types (Kd.R_types (HO141.out) BK134.out (by decide)) BK135.out (by decide)) BK136.out (by decide)) (fun k_ hk => ⟨(.inr (hk.1.1.1)), ⟨hk.1.1.2, ⟨hk.1.2, hk.2⟩⟩⟩))).2.1 (Kd.R_F (Kd.R_mono (ok' := (fun k_ => (P0_1_ k_ ∨ w.heap.size ≤ k_) ∧ k_ ≠ gb134 ∧ k_ ≠ gb135 ∧ k_ ≠ gb136)) (Kd.R_types (Kd.R_types (Kd.R_types (HO141.out) BK134.out (by decide)) BK135.out (by decide)) BK136.out (by decide)) (fun k_ hk => ⟨(.inr (hk.1.1.1)), ⟨hk.1.1.2, ⟨hk.1.2, hk.2⟩⟩⟩))))) (Reps.none _ _)))
      intro v146 w22 ho23 hb hg_ hnew_
      clear hg_ hnew_
      (first | rw [← Ny145.out] at ho23 | (simp only [Int.reduceToNat] at ho23; rw [← Ny145.out] at ho23))
      have n0_ := Ax.mk (Kd.V_elder' (by exact Kd.V_to HO0_1.out) (Kd.N_base ho23) hb)
      have n1_ := Ax.mk (Kd.N_lower ho23 (bS bA))
      have n2_ := Ax.mk (bB (bT BK134.out) hb)
      have n3_ := Ax.mk (bB (bT BK135.out) hb)
      have n4_ := Ax.mk (bB (bT BK136.out) hb)
      have n5_ := Ax.mk (bP bA hb)
      clear HO0_1
      clear BK134
      clear BK135
      clear BK136
      clear HB
      clear HO141
      have HO0_1 := n0_
      have HO147 := n1_
      have BK134 := n2_
      have BK135 := n3_
      have BK136 := n4_
      have HB := n5_
      clear n0_ n1_ n2_ n3_ n4_ n5_
      clear hb ho23
      refine hK.out _ _ ⟨(bC BK135.out 0).trans rfl, (bC BK135.out 1).trans rfl, (bC BK134.out 0).trans rfl, (bC BK134.out 1).trans rfl, (bC BK134.out 2).trans rfl⟩ (fun hHeld => ?_)
      clear hK K
      refine norm_ (a' := ?_) ?_ ?_
      rotate_left
      ·show Act.put _ (some 27) _ = _
       simp only [Act.put, setIfInBounds_toArray, set_cons_zero, set_cons_succ, i64_w, i32_w]
       rfl
      refine one_ (i := 4) (N := some 25) #[true, true, true, true, true, true, true, false, true, true, true, true, false, false, false] rfl rfl (one_of HT_.out (by kernel_rfl)) (by decide) (fun K hK => ?_)
      refine goes_ Tryd.func75 (by kernel_rfl) rfl #[.slice A0_1 l0_1.length c0_1] (by rfl) rfl rfl (by (try simp only [List.map_toArray, List.map_cons, List.map_nil]); first | done | rfl | (simp only [List.length_drop, List.length_take]; rfl) | (rw [wrap_sum2 (by assumption)]; rfl)) ?_
      with_reducible refine (step_Group.calls (fun k_ => ((P0_1_ k_ ∨ w.heap.size ≤ k_) ∧ (k_ ≠ gb134 ∧ (k_ ≠ gb135 ∧ (k_ ≠ gb136 ∧ some k_ ≠ (v146 : Value).ownBlock))))) _ _ l0_1 t142 _ ?side1 A6.out).mono ?_
      (case side1 => exact (Kd.V_mono (ok' := fun k_ => ((P0_1_ k_ ∨ w.heap.size ≤ k_) ∧ (k_ ≠ gb134 ∧ (k_ ≠ gb135 ∧ (k_ ≠ gb136 ∧ some k_ ≠ (v146 : Value).ownBlock))))) (HO0_1.out) (fun k_ hk_ => ⟨hk_.1.1, ⟨hk_.1.2.2.1, ⟨hk_.1.2.2.2.1, ⟨hk_.1.2.2.2.2, hk_.2⟩⟩⟩⟩)))
      rintro e w24 ⟨v143, rfl, ho0, hb⟩
      refine ⟨_, rfl, ?_⟩
      have n0_ := Ax.mk (Kd.V_elder' (by exact Kd.V_to HO0_1.out) (Kd.N_base ho0) hb)
      have n1_ := Ax.mk (Kd.N_elder' (by exact Kd.N_to HO147.out) (Kd.N_base ho0) hb)
      have n2_ := Ax.mk (Kd.N_lower (Kd.N_mono (ok' := fun k_ => (P0_1_ k_ ∨ w.heap.size ≤ k_) ∧ some k_ ≠ (v146 : Value).ownBlock ∧ k_ ≠ gb134 ∧ k_ ≠ gb135 ∧ k_ ≠ gb136) ho0 (fun k_ hk_ => ⟨Or.elim hk_ (fun hs_ => hs_.1) (fun hn_ => (.inr (Nat.le_trans (bS bA) hn_))), Or.elim hk_ (fun hs_ => hs_.2.2.2.2) (fun hn_ => (Kd.fresh' (Kd.N_lt (by exact Kd.N_to HO147.out)) k_ hn_)), Or.elim hk_ (fun hs_ => hs_.2.1) (fun hn_ => (Kd.freshB (g := gb134) (o := .cells #[.int .u64 a0_0, .slice A0_1 l0_1.length c0_1, .string a0_2] 66 (0, 0)) (bT BK134.out) k_ hn_)), Or.elim hk_ (fun hs_ => hs_.2.2.1) (fun hn_ => (Kd.freshB (g := gb135) (o := .cells #[.int .u64 a1_0, .slice Ao18 t139.length co18] 44 (0, 0)) (bT BK135.out) k_ hn_)), Or.elim hk_ (fun hs_ => hs_.2.2.2.1) (fun hn_ => (Kd.freshB (g := gb136) (o := .cells #[.int .u64 0, .slice none 0 0, .string (⟨#[]⟩ : ByteArray)] 66 (0, 0)) (bT BK136.out) k_ hn_))⟩)) (bS bA))
      have n3_ := Ax.mk (bB (bT BK134.out) hb)
      have n4_ := Ax.mk (bB (bT BK135.out) hb)
      have n5_ := Ax.mk (bB (bT BK136.out) hb)
      have n6_ := Ax.mk (bP bA hb)
      clear HO0_1
      clear HO147
      clear BK134
      clear BK135
      clear BK136
      clear HB
      have HO0_1 := n0_
      have HO147 := n1_
      have HO144 := n2_
      have BK134 := n3_
      have BK135 := n4_
      have BK136 := n5_
      have HB := n6_
      clear n0_ n1_ n2_ n3_ n4_ n5_ n6_
      (try clear hb)
      (try clear hb2)
      (try clear hk)
      (try clear hi)
      (try clear ho0)
      refine hK.out _ _ ⟨(bC BK135.out 0).trans rfl, (bC BK135.out 1).trans rfl, (bC BK134.out 0).trans rfl, (bC BK134.out 1).trans rfl, (bC BK134.out 2).trans rfl⟩ (fun hHeld => ?_)
      clear hK K
      refine norm_ (a' := ?_) ?_ ?_
      rotate_left
      ·show Act.put _ (some 25) _ = _
       simp only [Act.put, setIfInBounds_toArray, set_cons_zero, set_cons_succ, i64_w, i32_w]
       rfl
      exact norm_ (by simp only [putAll, Act.put, List.setIfInBounds_toArray, List.set_cons_zero, List.set_cons_succ]) (hCont (v143, v146) _ ⟨hHeld, (by apply Kd.V_to; exact Kd.V_mono HO0_1.out (fun _ hk => ⟨hk.1.1.1, ⟨hk.2, ⟨hk.1.2, ⟨hk.1.1.2.2.1, ⟨hk.1.1.2.2.2.1, hk.1.1.2.2.2.2⟩⟩⟩⟩⟩)), (by exact Kd.N_to HO144.out), (by apply Kd.N_to; exact Kd.N_mono HO147.out (fun _ hk => ⟨hk.1.1, ⟨hk.2, ⟨hk.1.2.1, ⟨hk.1.2.2.1, hk.1.2.2.2⟩⟩⟩⟩)), (bT BK134.out), (bT BK135.out), (bT BK136.out), bA⟩)
    rintro ⟨v143, v146⟩ w25 ⟨hS_, h0_, h1_, h2_, h3_, h4_, h5_, h6_⟩
    have n0_ : Ax (Kd.V k44 44 w25 w.heap.size (fun k_ => (P0_1_ k_ ∨ w.heap.size ≤ k_) ∧ some k_ ≠ (v143 : Value).ownBlock ∧ some k_ ≠ (v146 : Value).ownBlock ∧ k_ ≠ gb134 ∧ k_ ≠ gb135 ∧ k_ ≠ gb136) (.slice A0_1 l0_1.length c0_1) l0_1) := ⟨h0_⟩
    have n1_ : Ax (Kd.N k44 44 w25 w.heap.size (fun k_ => (P0_1_ k_ ∨ w.heap.size ≤ k_) ∧ some k_ ≠ (v146 : Value).ownBlock ∧ k_ ≠ gb134 ∧ k_ ≠ gb135 ∧ k_ ≠ gb136) v143 t142) := ⟨h1_⟩
    have n2_ : Ax (Kd.N k44 44 w25 w.heap.size (fun k_ => (P0_1_ k_ ∨ w.heap.size ≤ k_) ∧ some k_ ≠ (v143 : Value).ownBlock ∧ k_ ≠ gb134 ∧ k_ ≠ gb135 ∧ k_ ≠ gb136) v146 y145) := ⟨h2_⟩
    have n3_ : Ax (w25.heap[gb134]? = some (.cells #[.int .u64 a0_0, .slice A0_1 l0_1.length c0_1, .string a0_2] 66 (0, 0))) := ⟨h3_⟩
    have n4_ : Ax (w25.heap[gb135]? = some (.cells #[.int .u64 a1_0, .slice Ao18 t139.length co18] 44 (0, 0))) := ⟨h4_⟩
    have n5_ : Ax (w25.heap[gb136]? = some (.cells #[.int .u64 0, .slice none 0 0, .string (⟨#[]⟩ : ByteArray)] 66 (0, 0))) := ⟨h5_⟩
    have n6_ : Ax (Below w.heap.size w w25) := ⟨h6_⟩
    clear HO0_1
    clear HO141
    clear BK134
    clear BK135
    clear BK136
    clear HB
    clear h0_ h1_ h2_ h3_ h4_ h5_ h6_
    have HO0_1 := n0_
    have HO144 := n1_
    have HO147 := n2_
    have BK134 := n3_
    have BK135 := n4_
    have BK136 := n5_
    have HB := n6_
    clear n0_ n1_ n2_ n3_ n4_ n5_ n6_
    have hHeld : w25.cell? ⟨gb135, 0, none⟩ = some (.int .u64 a1_0) ∧ w25.cell? ⟨gb135, 1, none⟩ = some (.slice Ao18 t139.length co18) ∧ w25.cell? ⟨gb134, 0, none⟩ = some (.int .u64 a0_0) ∧ w25.cell? ⟨gb134, 1, none⟩ = some (.slice A0_1 l0_1.length c0_1) ∧ w25.cell? ⟨gb134, 2, none⟩ = some (.string a0_2) := hS_
    obtain ⟨Ao27, co27, eo27⟩ := Kd.N_slice HO147.out
    (first | subst eo27 | (injection eo27 with f1_ f2_ f3_; have f4_ := f1_.symm; have f5_ := f3_.symm; clear f1_ f2_ f3_; subst f4_; subst f5_))
    refine norm_ (a' := ?_) ?_ ?_
    rotate_left
    ·simp only [putAll, Act.put, List.setIfInBounds_toArray, List.set_cons_zero, List.set_cons_succ]
     rfl
    refine one_ (i := 7) (N := some 28) #[true, true, true, true, true, true, true, true, true, true, true, true, false, false, false] rfl rfl (one_of HT_.out (by kernel_rfl)) (by decide) (fun K hK => ?_)
    refine Kd.N_append_rows_step k44 (w0 := w) w.heap.size (by rfl) (.tmp 25) (.tmp 27) 37 44 (.agg #[(.int .u64 0), (.slice none 0 0)]) 32 rfl Tryd.underlying37 info44 rfl (by decide) (by omega) v143 t142 y145 _ _ _ (fun k_ => (P0_1_ k_ ∨ w.heap.size ≤ k_) ∧ k_ ≠ gb134 ∧ k_ ≠ gb135 ∧ k_ ≠ gb136) (fun k_ => ((fun k_ => (P0_1_ k_ ∨ w.heap.size ≤ k_) ∧ k_ ≠ gb134 ∧ k_ ≠ gb135 ∧ k_ ≠ gb136)) k_ ∧ some k_ ≠ (v143 : Value).ownBlock) rfl rfl ?aO ?aR (fun _ hk => hk) ?aF ?aB ?aS ?aL ?_
    (case aR => exact (by skip; exact Kd.N_F (Kd.N_mono (ok' := (fun k_ => ((fun k_ => (P0_1_ k_ ∨ w.heap.size ≤ k_) ∧ k_ ≠ gb134 ∧ k_ ≠ gb135 ∧ k_ ≠ gb136)) k_ ∧ some k_ ≠ (v143 : Value).ownBlock)) (HO147.out) (fun k_ hk => ⟨⟨hk.1, ⟨hk.2.2.1, ⟨hk.2.2.2.1, hk.2.2.2.2⟩⟩⟩, hk.2.1⟩))))
    (case aB => exact bA)
    (case aF => exact (fun k_ hk => ⟨(.inr (Nat.le_trans (bS bA) hk)), Kd.freshB (g := gb134) (o := .cells #[.int .u64 a0_0, .slice A0_1 l0_1.length c0_1, .string a0_2] 66 (0, 0)) (bT BK134.out) k_ hk, Kd.freshB (g := gb135) (o := .cells #[.int .u64 a1_0, .slice Ao18 t139.length co18] 44 (0, 0)) (bT BK135.out) k_ hk, Kd.freshB (g := gb136) (o := .cells #[.int .u64 0, .slice none 0 0, .string (⟨#[]⟩ : ByteArray)] 66 (0, 0)) (bT BK136.out) k_ hk⟩))
    (case aO => exact (by apply Kd.N_to; exact Kd.N_mono HO144.out (fun _ hk => ⟨hk.1, ⟨hk.2.2.1, ⟨hk.2.2.2.1, hk.2.2.2.2⟩⟩⟩)))
    (case aS => exact (bS bA))
    (case aL => have := LMc7.out; omega)
    intro v149 w26 ho hb hg hat
    rw [← Ny148.out] at ho
    have n0_ := Ax.mk (Kd.V_afterv (ok := (fun k_ => (P0_1_ k_ ∨ w.heap.size ≤ k_) ∧ some k_ ≠ (.slice Ao27 y145.length co27 : Value).ownBlock ∧ k_ ≠ gb134 ∧ k_ ≠ gb135 ∧ k_ ≠ gb136)) (by apply Kd.V_to; exact Kd.V_mono HO0_1.out (fun _ hk => ⟨⟨hk.1, ⟨hk.2.2.1, ⟨hk.2.2.2.1, ⟨hk.2.2.2.2.1, hk.2.2.2.2.2⟩⟩⟩⟩, hk.2.1⟩)) hg hat)
    have n1_ := Ax.mk (blk_grown (g := gb134) (o := .cells #[.int .u64 a0_0, .slice A0_1 l0_1.length c0_1, .string a0_2] 66 (0, 0)) (bT BK134.out) hg (Kd.N_ne HO144.out BK134.out (by decide)))
    have n2_ := Ax.mk (blk_grown (g := gb135) (o := .cells #[.int .u64 a1_0, .slice Ao18 t139.length co18] 44 (0, 0)) (bT BK135.out) hg (Kd.N_away HO144.out (fun _ hk => hk.2.2.2.1)))
    have n3_ := Ax.mk (blk_grown (g := gb136) (o := .cells #[.int .u64 0, .slice none 0 0, .string (⟨#[]⟩ : ByteArray)] 66 (0, 0)) (bT BK136.out) hg (Kd.N_ne HO144.out BK136.out (by decide)))
    have n4_ := Ax.mk (Kd.N_afterv (ok := (fun k_ => (P0_1_ k_ ∨ w.heap.size ≤ k_) ∧ k_ ≠ gb134 ∧ k_ ≠ gb135 ∧ k_ ≠ gb136)) (by apply Kd.N_to; exact Kd.N_mono HO147.out (fun _ hk => ⟨⟨hk.1, ⟨hk.2.2.1, ⟨hk.2.2.2.1, hk.2.2.2.2⟩⟩⟩, hk.2.1⟩)) hg hat)
    have n5_ := Ax.mk (hb)
    have n6_ := Ax.mk (ho)
    clear HO0_1
    clear BK134
    clear BK135
    clear BK136
    clear HO147
    clear HB
    clear HO144
    have HO0_1 := n0_
    have BK134 := n1_
    have BK135 := n2_
    have BK136 := n3_
    have HO147 := n4_
    have HB := n5_
    have HO150 := n6_
    clear n0_ n1_ n2_ n3_ n4_ n5_ n6_
    clear ho hb hg hat
    obtain ⟨Ao28, co28, eo28⟩ := Kd.N_slice HO150.out
    (first | subst eo28 | (injection eo28 with f1_ f2_ f3_; have f4_ := f1_.symm; have f5_ := f3_.symm; clear f1_ f2_ f3_; subst f4_; subst f5_))
    refine hK.out _ _ ⟨(bC BK135.out 0).trans rfl, (bC BK135.out 1).trans rfl, (bC BK134.out 0).trans rfl, (bC BK134.out 1).trans rfl, (bC BK134.out 2).trans rfl⟩ (fun hHeld => ?_)
    clear hK K
    refine norm_ (a' := ?_) ?_ ?_
    rotate_left
    ·show Act.put _ (some 28) _ = _
     simp only [Act.put, setIfInBounds_toArray, set_cons_zero, set_cons_succ, i64_w, i32_w]
     rfl
    refine pure_ (i := 12) (N := some 33) (v := ?_) (a' := ?_) #[true, true, true, true, true, true, true, true, true, true, true, true, true, false, false] rfl rfl (any_of HT_.out (by kernel_rfl)) (fun _ _ _ h => h) (Or.inl ⟨by rfl, ?_⟩) ?_ ?_
    rotate_left
    ·intro w'
     go_simp
     with_reducible rfl
    rotate_left
    ·simp only [Act.put, setIfInBounds_toArray, set_cons_zero, set_cons_succ, i64_w, i32_w]
     rfl
    refine one_ (i := 13) (N := none) #[true, true, true, true, true, true, true, true, true, true, true, true, true, true, false] rfl rfl (one_of HT_.out (by kernel_rfl)) (by decide) (fun K hK => ?_)
    have hs29 : w26.cell? ⟨gb136, 0, none⟩ = some (.int .u64 0) := (bC BK136.out 0).trans rfl
    have hfs29 := bF BK136.out 0
    have hns29_0 := NB134_136.out
    have hns29_1 := NB135_136.out
    have hms29_0 := NB136_134.out
    have hms29_1 := NB136_135.out
    have hs30 : w26.cell? ⟨gb136, 1, none⟩ = some (.slice none 0 0) := (bC BK136.out 1).trans rfl
    have hfs30 := bF BK136.out 1
    have hns30_0 := NB134_136.out
    have hns30_1 := NB135_136.out
    have hms30_0 := NB136_134.out
    have hms30_1 := NB136_135.out
    have hs31 : w26.cell? ⟨gb136, 2, none⟩ = some (.string (⟨#[]⟩ : ByteArray)) := (bC BK136.out 2).trans rfl
    have hfs31 := bF BK136.out 2
    have hns31_0 := NB134_136.out
    have hns31_1 := NB135_136.out
    have hms31_0 := NB136_134.out
    have hms31_1 := NB136_135.out
    refine skip_ (w1 := ?_) (by rfl) rfl ?_ ?_
    rotate_left
    ·go_simp
     rfl
    refine hK.out _ _ ⟨((cell_far (p := ⟨gb136, _, none⟩) NB135_136.out _).trans (((cell_far (p := ⟨gb136, _, none⟩) NB135_136.out _).trans (((cell_far (p := ⟨gb136, _, none⟩) NB135_136.out _).trans (hHeld.1)))))), ((cell_far (p := ⟨gb136, _, none⟩) NB135_136.out _).trans (((cell_far (p := ⟨gb136, _, none⟩) NB135_136.out _).trans (((cell_far (p := ⟨gb136, _, none⟩) NB135_136.out _).trans (hHeld.2.1)))))), ((cell_far (p := ⟨gb136, _, none⟩) NB134_136.out _).trans (((cell_far (p := ⟨gb136, _, none⟩) NB134_136.out _).trans (((cell_far (p := ⟨gb136, _, none⟩) NB134_136.out _).trans (hHeld.2.2.1)))))), ((cell_far (p := ⟨gb136, _, none⟩) NB134_136.out _).trans (((cell_far (p := ⟨gb136, _, none⟩) NB134_136.out _).trans (((cell_far (p := ⟨gb136, _, none⟩) NB134_136.out _).trans (hHeld.2.2.2.1)))))), ((cell_far (p := ⟨gb136, _, none⟩) NB134_136.out _).trans (((cell_far (p := ⟨gb136, _, none⟩) NB134_136.out _).trans (((cell_far (p := ⟨gb136, _, none⟩) NB134_136.out _).trans (hHeld.2.2.2.2))))))⟩ (fun hHeld => ?_)
    clear hK K
    refine pure_ (i := 14) (N := some 5) (v := ?_) (a' := ?_) #[true, true, true, true, true, true, true, true, true, true, true, true, true, true, true] rfl rfl (any_of HT_.out (by kernel_rfl)) (fun _ _ _ h => h) (Or.inl ⟨by rfl, ?_⟩) ?_ ?_
    rotate_left
    ·intro w'
     go_simp
     with_reducible rfl
    rotate_left
    ·simp only [Act.put, setIfInBounds_toArray, set_cons_zero, set_cons_succ, i64_w, i32_w]
     rfl
    refine done_ (done_of HT_.out (by kernel_rfl)) ?_
    try go_wp2
    refine bodyPost_ret (results_ct rfl _ _ gb136 66 #[.int .u64 a1_0, .slice Ao28 y148.length co28, .string (a0_2 ++ t137)] (0, 0) _ rfl (by refine bT ?_; refine bU (cs := #[.int .u64 a1_0, .slice Ao28 y148.length co28, .string (⟨#[]⟩ : ByteArray)]) ?_ 2 _ rfl; refine bT ?_; refine bU (cs := #[.int .u64 a1_0, .slice none 0 0, .string (⟨#[]⟩ : ByteArray)]) ?_ 1 _ rfl; refine bT ?_; refine bU (cs := #[.int .u64 0, .slice none 0 0, .string (⟨#[]⟩ : ByteArray)]) ?_ 0 _ rfl; exact bT BK136.out) Tryd.underlying66 rfl (by kernel_rfl)) rfl ?_
    exact ⟨_, by first | rfl | (simp [errW_none, errW_some] <;> rfl) | (simp [*, errW_none, errW_some] <;> rfl), by apply Kd.N_to; exact Kd.N_mono (Kd.N_far (p := ⟨gb136, 2, none⟩) (Kd.N_far (p := ⟨gb136, 1, none⟩) (Kd.N_far (p := ⟨gb136, 0, none⟩) (Kd.N_mono HO150.out (fun k_ hk => (⟨hk, hk.2.2.2⟩ : _ ∧ k_ ≠ gb136))) (fun _ hk => hk.2) (.int .u64 a1_0)) (fun _ hk => hk.2) (.slice Ao28 y148.length co28)) (fun _ hk => hk.2) (.string (a0_2 ++ t137))) (fun _ hk => hk.1.1), bA⟩
   ·rw [if_neg c8] at H
    exact absurd H (by simp)
  ·rw [if_neg c7] at H
   exact absurd H (by simp)
 ·rw [if_neg c4] at H
  have c4b0 : (t138 == 0) = false := beq_eq_false_iff_ne.mpr c4
  have c4b1 : (t138 != 0) = true := bne_iff_ne.mpr c4
  simp only [Option.some.injEq, Prod.mk.injEq] at H
  obtain ⟨rfl, rfl, rfl, rfl⟩ := H
  go_enter Tryd.func62, Tryd.ntmps62
  go_wp2_with (first | ((with_reducible refine gate_dst (N := 2) rfl ?_); refine box_event ?hg (N := 2) ?hd (cs := #[.int .u64 a0_0, .slice A0_1 l0_1.length c0_1, .string a0_2]) (t := 66) ?hr ?_; (case hd => rfl); (case hg => rfl); (case hr => first | (go_simp; done) | (go_simp; rfl)); intro gb134 hg w32 hbox hb; have n0_ := Ax.mk (Kd.V_below (Kd.V_elderB (by exact Kd.V_to HO0_1.out) gb134 (Nat.le_of_eq hg.symm)) hb); have n1_ := Ax.mk (bP bA hb); have n2_ := Ax.mk (hbox); have n3_ := Ax.mk ((ge_new hg : w.heap.size ≤ gb134)); have n4_ := n3_; clear HO0_1; clear HB; have HO0_1 := n0_; have HB := n1_; have BK134 := n2_; have GW134 := n3_; have GE134 := n4_; clear n0_ n1_ n2_ n3_ n4_; clear hb hbox hg) | ((with_reducible refine gate_dst (N := 3) rfl ?_); refine box_event ?hg (N := 3) ?hd (cs := #[.int .u64 a1_0, .slice A1_1 l1_1.length c1_1]) (t := 44) ?hr ?_; (case hd => rfl); (case hg => rfl); (case hr => first | (go_simp; done) | (go_simp; rfl)); intro gb135 hg w33 hbox hb; have n0_ := Ax.mk (Kd.V_below (Kd.V_elderB (by exact Kd.V_to HO0_1.out) gb135 (Nat.le_of_eq hg.symm)) hb); have n1_ := Ax.mk (bB (bT BK134.out) hb); have n2_ := Ax.mk (bP bA hb); have n3_ := Ax.mk (hbox); have n4_ := Ax.mk ((ge_new hg : w.heap.size ≤ gb135)); have n5_ := n4_; have n6_ := Ax.mk ((ne_lt hg BK134.out : gb134 ≠ gb135)); have n7_ := Ax.mk ((ne_gt hg BK134.out : gb135 ≠ gb134)); clear HO0_1; clear BK134; clear HB; have HO0_1 := n0_; have BK134 := n1_; have HB := n2_; have BK135 := n3_; have GW135 := n4_; have GE135 := n5_; have NB134_135 := n6_; have NB135_134 := n7_; clear n0_ n1_ n2_ n3_ n4_ n5_ n6_ n7_; clear hb hbox hg) | ((with_reducible refine gate_dst (N := 4) rfl ?_); refine box_event ?hg (N := 4) ?hd (cs := #[.int .u64 0, .slice none 0 0, .string (⟨#[]⟩ : ByteArray)]) (t := 66) ?hr ?_; (case hd => rfl); (case hg => rfl); (case hr => first | (go_simp; done) | (go_simp; rfl)); intro gb136 hg w34 hbox hb; have n0_ := Ax.mk (Kd.V_below (Kd.V_elderB (by exact Kd.V_to HO0_1.out) gb136 (Nat.le_of_eq hg.symm)) hb); have n1_ := Ax.mk (bB (bT BK134.out) hb); have n2_ := Ax.mk (bB (bT BK135.out) hb); have n3_ := Ax.mk (bP bA hb); have n4_ := Ax.mk (hbox); have n5_ := Ax.mk ((ge_new hg : w.heap.size ≤ gb136)); have n6_ := n5_; have n7_ := Ax.mk ((ne_lt hg BK134.out : gb134 ≠ gb136)); have n8_ := Ax.mk ((ne_gt hg BK134.out : gb136 ≠ gb134)); have n9_ := Ax.mk ((ne_lt hg BK135.out : gb135 ≠ gb136)); have n10_ := Ax.mk ((ne_gt hg BK135.out : gb136 ≠ gb135)); clear HO0_1; clear BK134; clear BK135; clear HB; have HO0_1 := n0_; have BK134 := n1_; have BK135 := n2_; have HB := n3_; have BK136 := n4_; have GW136 := n5_; have GE136 := n6_; have NB134_136 := n7_; have NB136_134 := n8_; have NB135_136 := n9_; have NB136_135 := n10_; clear n0_ n1_ n2_ n3_ n4_ n5_ n6_ n7_ n8_ n9_ n10_; clear hb hbox hg; have hnb35 := NB135_134.out; have hnc35 := NB134_135.out; have hnb36 := NB135_136.out; have hnc36 := NB136_135.out; have hcz37_0 : w34.cell? ⟨gb135, 0, none⟩ = some (.int .u64 a1_0) := (bC BK135.out 0).trans rfl; have hcz37_1 : w34.cell? ⟨gb135, 1, none⟩ = some (.slice A1_1 l1_1.length c1_1) := (bC BK135.out 1).trans rfl; have hfz37_0 := bF BK135.out 0; have hfz37_1 := bF BK135.out 1) | ((with_reducible refine gate_callee (f := 74) rfl ?_); refine goesL_ (some 10) rfl rfl Tryd.func74 (by kernel_rfl) rfl #[.agg #[.int .u64 a1_0, .slice A1_1 l1_1.length c1_1]] rfl (by (try simp only [List.map_toArray, List.map_cons, List.map_nil]); first | done | rfl | (simp only [List.length_drop, List.length_take]; rfl) | (rw [wrap_sum2 (by assumption)]; rfl)) ?_; (with_reducible refine (journal_closed.calls k a1_0 _ _ l1_1 t137 t138 _ ?side1 ?side2 A3.out (HT.below bA)).mono ?_); (case side1 => repeat (first | exact (Kd.C_below HR1_1.out HB.out) | (with_reducible refine Kd.C_alloc ?_ _) | (with_reducible refine Kd.C_drewN ?_ _) | (with_reducible refine Kd.C_drew ?_))); (case side2 => exact HC1_1.out); rintro e w38 ⟨rfl, hb⟩; refine ⟨_, rfl, ?_⟩; have n0_ := Ax.mk (Kd.V_below (by exact Kd.V_to HO0_1.out) hb); have n1_ := Ax.mk (bB (bT BK134.out) hb); have n2_ := Ax.mk (bB (bT BK135.out) hb); have n3_ := Ax.mk (bB (bT BK136.out) hb); have n4_ := Ax.mk (bP bA hb); clear HO0_1; clear BK134; clear BK135; clear BK136; clear HB; have HO0_1 := n0_; have BK134 := n1_; have BK135 := n2_; have BK136 := n3_; have HB := n4_; clear n0_ n1_ n2_ n3_ n4_; (try clear hb); (try clear hb2); (try clear hk); (try clear hi); have hnb39 := NB136_134.out; have hnc39 := NB134_136.out; have hcz40_0 : w38.cell? ⟨gb136, 0, none⟩ = some (.int .u64 0) := (bC BK136.out 0).trans rfl; have hcz40_1 : w38.cell? ⟨gb136, 1, none⟩ = some (.slice none 0 0) := (bC BK136.out 1).trans rfl; have hcz40_2 : w38.cell? ⟨gb136, 2, none⟩ = some (.string (⟨#[]⟩ : ByteArray)) := (bC BK136.out 2).trans rfl; have hfz40_0 := bF BK136.out 0; have hfz40_1 := bF BK136.out 1; have hfz40_2 := bF BK136.out 2))
  refine bodyPost_ret (results_ct rfl _ _ gb136 66 #[.int .u64 0, .slice none 0 0, .string (⟨#[]⟩ : ByteArray)] (0, 0) _ rfl (by refine bT ?_; refine bU (cs := #[.int .u64 0, .slice none 0 0, .string (⟨#[]⟩ : ByteArray)]) ?_ 2 _ rfl; refine bT ?_; refine bU (cs := #[.int .u64 0, .slice none 0 0, .string (⟨#[]⟩ : ByteArray)]) ?_ 1 _ rfl; refine bT ?_; refine bU (cs := #[.int .u64 0, .slice none 0 0, .string (⟨#[]⟩ : ByteArray)]) ?_ 0 _ rfl; exact bT BK136.out) Tryd.underlying66 rfl (by kernel_rfl)) rfl ?_
  exact ⟨_, by first | rfl | (simp [errW_none, errW_some] <;> rfl) | (simp [*, errW_none, errW_some] <;> rfl), by first | exact Kd.S_nil _ _ _ _ _ | exact Kd.N_nil _ _ _ _ _ | exact Kd.V_nil _ _ _ _ _ | exact Kd.Q_nil _ _ _ _ _ | exact Kd.R_nil _ _ _ _ _, bA⟩
end Go.Proofs.YtboommbclbjlnaaDoor.Fn
end
section
namespace Go.Proofs.YtboommbclbjlnaaDoor.Fn
open Go.RowKit Go.Proofs.YtboommbclbjlnaaDoorW.PrintWords Go.Proofs.YtboommbclbjlnaaDoorW.PrintLast Go.Proofs.YtboommbclbjlnaaDoorW.PrintMore Go.Proofs.YtboommbclbjlnaaDoor.Lf
attribute [local go_sem] max2_int min2_int max_two min_two max_three min_three max_four min_four   -- for this text's walks alone
set_option linter.unusedVariables false
set_option linter.unusedSimpArgs false
def journal_Add.f (k : Nat) (a0_0 : Int) (l0_1 : List (S44)) (a0_2 : ByteArray) (l1 : List (S24)) : Option (Int × (List (S44)) × ByteArray × Int) := (journal_Log_with.f k a0_0 l0_1 a0_2 (IntKind.u64.wrap (a0_0 + 1)) l1).bind fun bt160 => (if bt160.2.2.2 = 0 then (if a0_0 = 18446744073709551615 then (some (0, ([] : List (S44)), (⟨#[]⟩ : ByteArray), 14)) else (some (bt160.1, bt160.2.1, bt160.2.2.1, 0))) else (some (0, ([] : List (S44)), (⟨#[]⟩ : ByteArray), bt160.2.2.2)))
theorem journal_Add.mono : ∀ a0 a1 a2 a3 k, LeO (journal_Add.f k a0 a1 a2 a3) (journal_Add.f (k + 1) a0 a1 a2 a3) := by
 intro a0 a1 a2 a3 k
 unfold journal_Add.f
 repeat' first
   | (with_reducible exact journal_Log_with.mono _ _ _ _ _ _)
   | (with_reducible exact LeO.refl _)
   | (with_reducible exact LeO.none _)
   | (with_reducible refine LeO.ite ?_ ?_)
   | (with_reducible refine LeO.bind ?_ (fun _ => ?_))
   | exact journal_Log_with.mono _ _ _ _ _ _
   | exact LeO.none _
   | refine LeO.ite ?_ ?_
   | refine LeO.bind ?_ (fun _ => ?_)
set_option maxHeartbeats 8000000 in
set_option maxRecDepth 100000 in
theorem journal_Add.calls (k : Nat) (a0_0 : Int) (P0_1_ : Nat → Prop) (A0_1 : Option Addr) (c0_1 : Nat) (l0_1 : List (S44)) (a0_2 : ByteArray) (A1 : Option Addr) (c1 : Nat) (l1 : List (S24)) (r1 : Int) (r2 : List (S44)) (r3 : ByteArray) (r4 : Int) (w : World) (hs0_1 : Kd.V k44 44 w w.heap.size (fun k_ => P0_1_ k_) (.slice A0_1 l0_1.length c0_1) l0_1) (hr1 : Kd.C k24 w A1 l1.length l1) (hc1 : l1.length ≤ c1) (h : journal_Add.f k a0_0 l0_1 a0_2 l1 = some (r1, r2, r3, r4)) (HT : Tabs w) :
  Calls Tryd.prog 39 #[.agg #[.int .u64 a0_0, .slice A0_1 l0_1.length c0_1, .string a0_2], .slice A1 l1.length c1] w fun e w' => ∃ v1_ : Value, e = .returned (.tuple #[.agg #[.int .u64 r1, v1_, .string r3], .int .i64 r4]) ∧ Kd.N k44 44 w' w.heap.size (fun k_ => (P0_1_ k_ ∨ w.heap.size ≤ k_)) v1_ r2 ∧ Below w.heap.size w w' := by
 have hu66 := Tryd.underlying66
 have hu44 := Tryd.underlying44
 have HO0_1 := Ax.mk (show Kd.V k44 44 w w.heap.size (fun k_ => (P0_1_ k_ ∨ w.heap.size ≤ k_)) (.slice A0_1 l0_1.length c0_1) l0_1 from Kd.V_mono hs0_1 (fun k_ hk => .inl hk))
 have HR1 := Ax.mk hr1
 have HC1 := Ax.mk hc1
 clear hr1 hc1
 have HB := Ax.mk (Below.refl w.heap.size w)
 have H : ((journal_Log_with.f k a0_0 l0_1 a0_2 (IntKind.u64.wrap (a0_0 + 1)) l1).bind fun bt160 => (if bt160.2.2.2 = 0 then (if a0_0 = 18446744073709551615 then (some (0, ([] : List (S44)), (⟨#[]⟩ : ByteArray), 14)) else (some (bt160.1, bt160.2.1, bt160.2.2.1, 0))) else (some (0, ([] : List (S44)), (⟨#[]⟩ : ByteArray), bt160.2.2.2)))) = some (r1, r2, r3, r4) := h
 clear h
 replace H := Option.bind_eq_some_iff.mp H
 obtain ⟨⟨t160, t161, t164, t165⟩, A30, H⟩ := H
 replace H : (if t165 = 0 then (if a0_0 = 18446744073709551615 then (some (0, ([] : List (S44)), (⟨#[]⟩ : ByteArray), 14)) else (some (t160, t161, t164, 0))) else (some (0, ([] : List (S44)), (⟨#[]⟩ : ByteArray), t165))) = some (r1, r2, r3, r4) := H
 have A3 := Ax.mk A30
 clear A30
 by_cases c4 : t165 = 0
 ·rw [if_pos c4] at H
  have c4b0 : (t165 == 0) = true := beq_iff_eq.mpr c4
  have c4b1 : (t165 != 0) = false := bne_eq_false_iff_eq.mpr c4
  clear c4
  by_cases c5 : a0_0 = 18446744073709551615
  ·rw [if_pos c5] at H
   have c5b0 : (a0_0 == 18446744073709551615) = true := beq_iff_eq.mpr c5
   have c5b1 : (a0_0 != 18446744073709551615) = false := bne_eq_false_iff_eq.mpr c5
   clear c5
   simp only [Option.some.injEq, Prod.mk.injEq] at H
   obtain ⟨rfl, rfl, rfl, rfl⟩ := H
   go_enter Tryd.func39, Tryd.ntmps39
   go_wp2_with (first | ((with_reducible refine gate_dst (N := 2) rfl ?_); refine box_event ?hg (N := 2) ?hd (cs := #[.int .u64 a0_0, .slice A0_1 l0_1.length c0_1, .string a0_2]) (t := 66) ?hr ?_; (case hd => rfl); (case hg => rfl); (case hr => first | (go_simp; done) | (go_simp; rfl)); intro gb158 hg w6 hbox hb; have n0_ := Ax.mk (Kd.V_below (Kd.V_elderB (by exact Kd.V_to HO0_1.out) gb158 (Nat.le_of_eq hg.symm)) hb); have n1_ := Ax.mk (bP bA hb); have n2_ := Ax.mk (hbox); have n3_ := Ax.mk ((ge_new hg : w.heap.size ≤ gb158)); have n4_ := n3_; clear HO0_1; clear HB; have HO0_1 := n0_; have HB := n1_; have BK158 := n2_; have GW158 := n3_; have GE158 := n4_; clear n0_ n1_ n2_ n3_ n4_; clear hb hbox hg) | ((with_reducible refine gate_dst (N := 4) rfl ?_); refine box_event ?hg (N := 4) ?hd (cs := #[.int .u64 0, .slice none 0 0, .string (⟨#[]⟩ : ByteArray)]) (t := 66) ?hr ?_; (case hd => rfl); (case hg => rfl); (case hr => first | (go_simp; done) | (go_simp; rfl)); intro gb159 hg w7 hbox hb; have n0_ := Ax.mk (Kd.V_below (Kd.V_elderB (by exact Kd.V_to HO0_1.out) gb159 (Nat.le_of_eq hg.symm)) hb); have n1_ := Ax.mk (bB (bT BK158.out) hb); have n2_ := Ax.mk (bP bA hb); have n3_ := Ax.mk (hbox); have n4_ := Ax.mk ((ge_new hg : w.heap.size ≤ gb159)); have n5_ := n4_; have n6_ := Ax.mk ((ne_lt hg BK158.out : gb158 ≠ gb159)); have n7_ := Ax.mk ((ne_gt hg BK158.out : gb159 ≠ gb158)); clear HO0_1; clear BK158; clear HB; have HO0_1 := n0_; have BK158 := n1_; have HB := n2_; have BK159 := n3_; have GW159 := n4_; have GE159 := n5_; have NB158_159 := n6_; have NB159_158 := n7_; clear n0_ n1_ n2_ n3_ n4_ n5_ n6_ n7_; clear hb hbox hg; have hnb8 := NB158_159.out; have hnc8 := NB159_158.out; have hcz9_0 : w7.cell? ⟨gb158, 0, none⟩ = some (.int .u64 a0_0) := (bC BK158.out 0).trans rfl; have hcz9_1 : w7.cell? ⟨gb158, 1, none⟩ = some (.slice A0_1 l0_1.length c0_1) := (bC BK158.out 1).trans rfl; have hcz9_2 : w7.cell? ⟨gb158, 2, none⟩ = some (.string a0_2) := (bC BK158.out 2).trans rfl; have hfz9_0 := bF BK158.out 0; have hfz9_1 := bF BK158.out 1; have hfz9_2 := bF BK158.out 2) | ((with_reducible refine gate_callee (f := 62) rfl ?_); refine goesL_ (some 15) rfl rfl Tryd.func62 (by kernel_rfl) rfl #[.agg #[.int .u64 a0_0, .slice A0_1 l0_1.length c0_1, .string a0_2], .agg #[.int .u64 (IntKind.u64.wrap (a0_0 + 1)), .slice A1 l1.length c1]] rfl (by (try simp only [List.map_toArray, List.map_cons, List.map_nil]); first | done | rfl | (simp only [List.length_drop, List.length_take]; rfl) | (rw [wrap_sum2 (by assumption)]; rfl)) ?_; (with_reducible refine (journal_Log_with.calls k a0_0 (fun k_ => (((P0_1_ k_ ∨ w.heap.size ≤ k_) ∧ k_ ≠ gb158) ∧ k_ ≠ gb159)) _ _ l0_1 a0_2 (IntKind.u64.wrap (a0_0 + 1)) _ _ l1 t160 t161 t164 t165 _ ?side1 ?side2 ?side3 A3.out (HT.below bA)).mono ?_); (case side1 => exact HO0_1.out); (case side2 => repeat (first | exact (Kd.C_below HR1.out HB.out) | (with_reducible refine Kd.C_alloc ?_ _) | (with_reducible refine Kd.C_drewN ?_ _) | (with_reducible refine Kd.C_drew ?_))); (case side3 => exact HC1.out); rintro e w10 ⟨v162, rfl, ho0, hb⟩; refine ⟨_, rfl, ?_⟩; have n0_ := Ax.mk (Kd.V_elder' (by exact Kd.V_to HO0_1.out) (Kd.N_base ho0) hb); have n1_ := Ax.mk (Kd.N_lower (Kd.N_mono (ok' := fun k_ => (P0_1_ k_ ∨ w.heap.size ≤ k_) ∧ k_ ≠ gb158 ∧ k_ ≠ gb159) ho0 (fun k_ hk_ => ⟨Or.elim hk_ (fun hs_ => hs_.1.1) (fun hn_ => (.inr (Nat.le_trans (bS bA) hn_))), Or.elim hk_ (fun hs_ => hs_.1.2) (fun hn_ => (Kd.freshB (g := gb158) (o := .cells #[.int .u64 a0_0, .slice A0_1 l0_1.length c0_1, .string a0_2] 66 (0, 0)) (bT BK158.out) k_ hn_)), Or.elim hk_ (fun hs_ => hs_.2) (fun hn_ => (Kd.freshB (g := gb159) (o := .cells #[.int .u64 0, .slice none 0 0, .string (⟨#[]⟩ : ByteArray)] 66 (0, 0)) (bT BK159.out) k_ hn_))⟩)) (bS bA)); have n2_ := Ax.mk (bB (bT BK158.out) hb); have n3_ := Ax.mk (bB (bT BK159.out) hb); have n4_ := Ax.mk (bP bA hb); clear HO0_1; clear BK158; clear BK159; clear HB; have HO0_1 := n0_; have HO163 := n1_; have BK158 := n2_; have BK159 := n3_; have HB := n4_; clear n0_ n1_ n2_ n3_ n4_; (try clear hb); (try clear hb2); (try clear hk); (try clear hi); (try clear ho0)) | ((with_reducible refine gate_dst (N := 6) rfl ?_); refine box_event ?hg (N := 6) ?hd (cs := #[.int .u64 0, .slice none 0 0, .string (⟨#[]⟩ : ByteArray)]) (t := 66) ?hr ?_; (case hd => rfl); (case hg => rfl); (case hr => first | (go_simp; done) | (go_simp; rfl)); intro gb166 hg w11 hbox hb; have n0_ := Ax.mk (Kd.V_below (Kd.V_elderB (by exact Kd.V_to HO0_1.out) gb166 (Nat.le_of_eq hg.symm)) hb); have n1_ := Ax.mk (Kd.N_below (Kd.N_elderB (by exact Kd.N_to HO163.out) gb166 (Nat.le_of_eq hg.symm)) hb); have n2_ := Ax.mk (bB (bT BK158.out) hb); have n3_ := Ax.mk (bB (bT BK159.out) hb); have n4_ := Ax.mk (bP bA hb); have n5_ := Ax.mk (hbox); have n6_ := Ax.mk ((ge_new hg : w.heap.size ≤ gb166)); have n7_ := n6_; have n8_ := Ax.mk ((ne_lt hg BK158.out : gb158 ≠ gb166)); have n9_ := Ax.mk ((ne_gt hg BK158.out : gb166 ≠ gb158)); have n10_ := Ax.mk ((ne_lt hg BK159.out : gb159 ≠ gb166)); have n11_ := Ax.mk ((ne_gt hg BK159.out : gb166 ≠ gb159)); clear HO0_1; clear HO163; clear BK158; clear BK159; clear HB; have HO0_1 := n0_; have HO163 := n1_; have BK158 := n2_; have BK159 := n3_; have HB := n4_; have BK166 := n5_; have GW166 := n6_; have GE166 := n7_; have NB158_166 := n8_; have NB166_158 := n9_; have NB159_166 := n10_; have NB166_159 := n11_; clear n0_ n1_ n2_ n3_ n4_ n5_ n6_ n7_ n8_ n9_ n10_ n11_; clear hb hbox hg; have hnb12 := NB166_158.out; have hnc12 := NB158_166.out; have hnb13 := NB166_159.out; have hnc13 := NB159_166.out; have hcz14_0 : w11.cell? ⟨gb166, 0, none⟩ = some (.int .u64 0) := (bC BK166.out 0).trans rfl; have hcz14_1 : w11.cell? ⟨gb166, 1, none⟩ = some (.slice none 0 0) := (bC BK166.out 1).trans rfl; have hcz14_2 : w11.cell? ⟨gb166, 2, none⟩ = some (.string (⟨#[]⟩ : ByteArray)) := (bC BK166.out 2).trans rfl; have hfz14_0 := bF BK166.out 0; have hfz14_1 := bF BK166.out 1; have hfz14_2 := bF BK166.out 2; obtain ⟨Ao15, co15, eo15⟩ := Kd.N_slice HO163.out; subst eo15; have hcz16_0 : w11.cell? ⟨gb158, 0, none⟩ = some (.int .u64 a0_0) := (bC BK158.out 0).trans rfl; have hcz16_1 : w11.cell? ⟨gb158, 1, none⟩ = some (.slice A0_1 l0_1.length c0_1) := (bC BK158.out 1).trans rfl; have hcz16_2 : w11.cell? ⟨gb158, 2, none⟩ = some (.string a0_2) := (bC BK158.out 2).trans rfl; have hfz16_0 := bF BK158.out 0; have hfz16_1 := bF BK158.out 1; have hfz16_2 := bF BK158.out 2; have hcz17_0 : w11.cell? ⟨gb159, 0, none⟩ = some (.int .u64 0) := (bC BK159.out 0).trans rfl; have hcz17_1 : w11.cell? ⟨gb159, 1, none⟩ = some (.slice none 0 0) := (bC BK159.out 1).trans rfl; have hcz17_2 : w11.cell? ⟨gb159, 2, none⟩ = some (.string (⟨#[]⟩ : ByteArray)) := (bC BK159.out 2).trans rfl; have hfz17_0 := bF BK159.out 0; have hfz17_1 := bF BK159.out 1; have hfz17_2 := bF BK159.out 2))
   refine bodyPost_ret (results_ct rfl _ _ gb159 66 #[.int .u64 0, .slice none 0 0, .string (⟨#[]⟩ : ByteArray)] (0, 0) _ rfl (by refine bT ?_; refine bU (cs := #[.int .u64 0, .slice none 0 0, .string (⟨#[]⟩ : ByteArray)]) ?_ 2 _ rfl; refine bT ?_; refine bU (cs := #[.int .u64 0, .slice none 0 0, .string (⟨#[]⟩ : ByteArray)]) ?_ 1 _ rfl; refine bT ?_; refine bU (cs := #[.int .u64 0, .slice none 0 0, .string (⟨#[]⟩ : ByteArray)]) ?_ 0 _ rfl; refine bT ?_; refine bR ?_ NB159_166.out _; refine bT ?_; refine bR ?_ NB159_166.out _; refine bT ?_; refine bR ?_ NB159_166.out _; exact bT BK159.out) Tryd.underlying66 rfl (by kernel_rfl)) rfl ?_
   exact ⟨_, by first | rfl | (simp [errW_none, errW_some] <;> rfl) | (simp [*, errW_none, errW_some] <;> rfl), by first | exact Kd.S_nil _ _ _ _ _ | exact Kd.N_nil _ _ _ _ _ | exact Kd.V_nil _ _ _ _ _ | exact Kd.Q_nil _ _ _ _ _ | exact Kd.R_nil _ _ _ _ _, bA⟩
  ·rw [if_neg c5] at H
   have c5b0 : (a0_0 == 18446744073709551615) = false := beq_eq_false_iff_ne.mpr c5
   have c5b1 : (a0_0 != 18446744073709551615) = true := bne_iff_ne.mpr c5
   simp only [Option.some.injEq, Prod.mk.injEq] at H
   obtain ⟨rfl, rfl, rfl, rfl⟩ := H
   go_enter Tryd.func39, Tryd.ntmps39
   go_wp2_with (first | ((with_reducible refine gate_dst (N := 2) rfl ?_); refine box_event ?hg (N := 2) ?hd (cs := #[.int .u64 a0_0, .slice A0_1 l0_1.length c0_1, .string a0_2]) (t := 66) ?hr ?_; (case hd => rfl); (case hg => rfl); (case hr => first | (go_simp; done) | (go_simp; rfl)); intro gb158 hg w18 hbox hb; have n0_ := Ax.mk (Kd.V_below (Kd.V_elderB (by exact Kd.V_to HO0_1.out) gb158 (Nat.le_of_eq hg.symm)) hb); have n1_ := Ax.mk (bP bA hb); have n2_ := Ax.mk (hbox); have n3_ := Ax.mk ((ge_new hg : w.heap.size ≤ gb158)); have n4_ := n3_; clear HO0_1; clear HB; have HO0_1 := n0_; have HB := n1_; have BK158 := n2_; have GW158 := n3_; have GE158 := n4_; clear n0_ n1_ n2_ n3_ n4_; clear hb hbox hg) | ((with_reducible refine gate_dst (N := 4) rfl ?_); refine box_event ?hg (N := 4) ?hd (cs := #[.int .u64 0, .slice none 0 0, .string (⟨#[]⟩ : ByteArray)]) (t := 66) ?hr ?_; (case hd => rfl); (case hg => rfl); (case hr => first | (go_simp; done) | (go_simp; rfl)); intro gb159 hg w19 hbox hb; have n0_ := Ax.mk (Kd.V_below (Kd.V_elderB (by exact Kd.V_to HO0_1.out) gb159 (Nat.le_of_eq hg.symm)) hb); have n1_ := Ax.mk (bB (bT BK158.out) hb); have n2_ := Ax.mk (bP bA hb); have n3_ := Ax.mk (hbox); have n4_ := Ax.mk ((ge_new hg : w.heap.size ≤ gb159)); have n5_ := n4_; have n6_ := Ax.mk ((ne_lt hg BK158.out : gb158 ≠ gb159)); have n7_ := Ax.mk ((ne_gt hg BK158.out : gb159 ≠ gb158)); clear HO0_1; clear BK158; clear HB; have HO0_1 := n0_; have BK158 := n1_; have HB := n2_; have BK159 := n3_; have GW159 := n4_; have GE159 := n5_; have NB158_159 := n6_; have NB159_158 := n7_; clear n0_ n1_ n2_ n3_ n4_ n5_ n6_ n7_; clear hb hbox hg; have hnb20 := NB158_159.out; have hnc20 := NB159_158.out; have hcz21_0 : w19.cell? ⟨gb158, 0, none⟩ = some (.int .u64 a0_0) := (bC BK158.out 0).trans rfl; have hcz21_1 : w19.cell? ⟨gb158, 1, none⟩ = some (.slice A0_1 l0_1.length c0_1) := (bC BK158.out 1).trans rfl; have hcz21_2 : w19.cell? ⟨gb158, 2, none⟩ = some (.string a0_2) := (bC BK158.out 2).trans rfl; have hfz21_0 := bF BK158.out 0; have hfz21_1 := bF BK158.out 1; have hfz21_2 := bF BK158.out 2) | ((with_reducible refine gate_callee (f := 62) rfl ?_); refine goesL_ (some 15) rfl rfl Tryd.func62 (by kernel_rfl) rfl #[.agg #[.int .u64 a0_0, .slice A0_1 l0_1.length c0_1, .string a0_2], .agg #[.int .u64 (IntKind.u64.wrap (a0_0 + 1)), .slice A1 l1.length c1]] rfl (by (try simp only [List.map_toArray, List.map_cons, List.map_nil]); first | done | rfl | (simp only [List.length_drop, List.length_take]; rfl) | (rw [wrap_sum2 (by assumption)]; rfl)) ?_; (with_reducible refine (journal_Log_with.calls k a0_0 (fun k_ => (((P0_1_ k_ ∨ w.heap.size ≤ k_) ∧ k_ ≠ gb158) ∧ k_ ≠ gb159)) _ _ l0_1 a0_2 (IntKind.u64.wrap (a0_0 + 1)) _ _ l1 t160 t161 t164 t165 _ ?side1 ?side2 ?side3 A3.out (HT.below bA)).mono ?_); (case side1 => exact HO0_1.out); (case side2 => repeat (first | exact (Kd.C_below HR1.out HB.out) | (with_reducible refine Kd.C_alloc ?_ _) | (with_reducible refine Kd.C_drewN ?_ _) | (with_reducible refine Kd.C_drew ?_))); (case side3 => exact HC1.out); rintro e w22 ⟨v162, rfl, ho0, hb⟩; refine ⟨_, rfl, ?_⟩; have n0_ := Ax.mk (Kd.V_elder' (by exact Kd.V_to HO0_1.out) (Kd.N_base ho0) hb); have n1_ := Ax.mk (Kd.N_lower (Kd.N_mono (ok' := fun k_ => (P0_1_ k_ ∨ w.heap.size ≤ k_) ∧ k_ ≠ gb158 ∧ k_ ≠ gb159) ho0 (fun k_ hk_ => ⟨Or.elim hk_ (fun hs_ => hs_.1.1) (fun hn_ => (.inr (Nat.le_trans (bS bA) hn_))), Or.elim hk_ (fun hs_ => hs_.1.2) (fun hn_ => (Kd.freshB (g := gb158) (o := .cells #[.int .u64 a0_0, .slice A0_1 l0_1.length c0_1, .string a0_2] 66 (0, 0)) (bT BK158.out) k_ hn_)), Or.elim hk_ (fun hs_ => hs_.2) (fun hn_ => (Kd.freshB (g := gb159) (o := .cells #[.int .u64 0, .slice none 0 0, .string (⟨#[]⟩ : ByteArray)] 66 (0, 0)) (bT BK159.out) k_ hn_))⟩)) (bS bA)); have n2_ := Ax.mk (bB (bT BK158.out) hb); have n3_ := Ax.mk (bB (bT BK159.out) hb); have n4_ := Ax.mk (bP bA hb); clear HO0_1; clear BK158; clear BK159; clear HB; have HO0_1 := n0_; have HO163 := n1_; have BK158 := n2_; have BK159 := n3_; have HB := n4_; clear n0_ n1_ n2_ n3_ n4_; (try clear hb); (try clear hb2); (try clear hk); (try clear hi); (try clear ho0)) | ((with_reducible refine gate_dst (N := 6) rfl ?_); refine box_event ?hg (N := 6) ?hd (cs := #[.int .u64 0, .slice none 0 0, .string (⟨#[]⟩ : ByteArray)]) (t := 66) ?hr ?_; (case hd => rfl); (case hg => rfl); (case hr => first | (go_simp; done) | (go_simp; rfl)); intro gb166 hg w23 hbox hb; have n0_ := Ax.mk (Kd.V_below (Kd.V_elderB (by exact Kd.V_to HO0_1.out) gb166 (Nat.le_of_eq hg.symm)) hb); have n1_ := Ax.mk (Kd.N_below (Kd.N_elderB (by exact Kd.N_to HO163.out) gb166 (Nat.le_of_eq hg.symm)) hb); have n2_ := Ax.mk (bB (bT BK158.out) hb); have n3_ := Ax.mk (bB (bT BK159.out) hb); have n4_ := Ax.mk (bP bA hb); have n5_ := Ax.mk (hbox); have n6_ := Ax.mk ((ge_new hg : w.heap.size ≤ gb166)); have n7_ := n6_; have n8_ := Ax.mk ((ne_lt hg BK158.out : gb158 ≠ gb166)); have n9_ := Ax.mk ((ne_gt hg BK158.out : gb166 ≠ gb158)); have n10_ := Ax.mk ((ne_lt hg BK159.out : gb159 ≠ gb166)); have n11_ := Ax.mk ((ne_gt hg BK159.out : gb166 ≠ gb159)); clear HO0_1; clear HO163; clear BK158; clear BK159; clear HB; have HO0_1 := n0_; have HO163 := n1_; have BK158 := n2_; have BK159 := n3_; have HB := n4_; have BK166 := n5_; have GW166 := n6_; have GE166 := n7_; have NB158_166 := n8_; have NB166_158 := n9_; have NB159_166 := n10_; have NB166_159 := n11_; clear n0_ n1_ n2_ n3_ n4_ n5_ n6_ n7_ n8_ n9_ n10_ n11_; clear hb hbox hg; have hnb24 := NB166_158.out; have hnc24 := NB158_166.out; have hnb25 := NB166_159.out; have hnc25 := NB159_166.out; have hcz26_0 : w23.cell? ⟨gb166, 0, none⟩ = some (.int .u64 0) := (bC BK166.out 0).trans rfl; have hcz26_1 : w23.cell? ⟨gb166, 1, none⟩ = some (.slice none 0 0) := (bC BK166.out 1).trans rfl; have hcz26_2 : w23.cell? ⟨gb166, 2, none⟩ = some (.string (⟨#[]⟩ : ByteArray)) := (bC BK166.out 2).trans rfl; have hfz26_0 := bF BK166.out 0; have hfz26_1 := bF BK166.out 1; have hfz26_2 := bF BK166.out 2; obtain ⟨Ao27, co27, eo27⟩ := Kd.N_slice HO163.out; subst eo27; have hcz28_0 : w23.cell? ⟨gb158, 0, none⟩ = some (.int .u64 a0_0) := (bC BK158.out 0).trans rfl; have hcz28_1 : w23.cell? ⟨gb158, 1, none⟩ = some (.slice A0_1 l0_1.length c0_1) := (bC BK158.out 1).trans rfl; have hcz28_2 : w23.cell? ⟨gb158, 2, none⟩ = some (.string a0_2) := (bC BK158.out 2).trans rfl; have hfz28_0 := bF BK158.out 0; have hfz28_1 := bF BK158.out 1; have hfz28_2 := bF BK158.out 2; have hcz29_0 : w23.cell? ⟨gb159, 0, none⟩ = some (.int .u64 0) := (bC BK159.out 0).trans rfl; have hcz29_1 : w23.cell? ⟨gb159, 1, none⟩ = some (.slice none 0 0) := (bC BK159.out 1).trans rfl; have hcz29_2 : w23.cell? ⟨gb159, 2, none⟩ = some (.string (⟨#[]⟩ : ByteArray)) := (bC BK159.out 2).trans rfl; have hfz29_0 := bF BK159.out 0; have hfz29_1 := bF BK159.out 1; have hfz29_2 := bF BK159.out 2))
   refine bodyPost_ret (results_ct rfl _ _ gb159 66 #[.int .u64 t160, .slice Ao27 t161.length co27, .string t164] (0, 0) _ rfl (by refine bT ?_; refine bU (cs := #[.int .u64 t160, .slice Ao27 t161.length co27, .string (⟨#[]⟩ : ByteArray)]) ?_ 2 _ rfl; refine bT ?_; refine bU (cs := #[.int .u64 t160, .slice none 0 0, .string (⟨#[]⟩ : ByteArray)]) ?_ 1 _ rfl; refine bT ?_; refine bU (cs := #[.int .u64 0, .slice none 0 0, .string (⟨#[]⟩ : ByteArray)]) ?_ 0 _ rfl; refine bT ?_; refine bR ?_ NB159_166.out _; refine bT ?_; refine bR ?_ NB159_166.out _; refine bT ?_; refine bR ?_ NB159_166.out _; exact bT BK159.out) Tryd.underlying66 rfl (by kernel_rfl)) rfl ?_
   exact ⟨_, by first | rfl | (simp [errW_none, errW_some] <;> rfl) | (simp [*, errW_none, errW_some] <;> rfl), by apply Kd.N_to; exact Kd.N_mono (Kd.N_far (p := ⟨gb159, 2, none⟩) (Kd.N_far (p := ⟨gb159, 1, none⟩) (Kd.N_far (p := ⟨gb159, 0, none⟩) (Kd.N_far (p := ⟨gb166, 2, none⟩) (Kd.N_far (p := ⟨gb166, 1, none⟩) (Kd.N_far (p := ⟨gb166, 0, none⟩) (Kd.N_mono (Kd.N_mono HO163.out (fun k_ hk => (⟨hk, hk.2⟩ : _ ∧ k_ ≠ gb166))) (fun k_ hk => (⟨hk, hk.1.1.2.2⟩ : _ ∧ k_ ≠ gb159))) (fun _ hk => hk.1.2) (.int .u64 t160)) (fun _ hk => hk.1.2) (.slice Ao27 t161.length co27)) (fun _ hk => hk.1.2) (.string t164)) (fun _ hk => hk.2) (.int .u64 t160)) (fun _ hk => hk.2) (.slice Ao27 t161.length co27)) (fun _ hk => hk.2) (.string t164)) (fun _ hk => hk.1.1.1.1), bA⟩
 ·rw [if_neg c4] at H
  have c4b0 : (t165 == 0) = false := beq_eq_false_iff_ne.mpr c4
  have c4b1 : (t165 != 0) = true := bne_iff_ne.mpr c4
  simp only [Option.some.injEq, Prod.mk.injEq] at H
  obtain ⟨rfl, rfl, rfl, rfl⟩ := H
  go_enter Tryd.func39, Tryd.ntmps39
  go_wp2_with (first | ((with_reducible refine gate_dst (N := 2) rfl ?_); refine box_event ?hg (N := 2) ?hd (cs := #[.int .u64 a0_0, .slice A0_1 l0_1.length c0_1, .string a0_2]) (t := 66) ?hr ?_; (case hd => rfl); (case hg => rfl); (case hr => first | (go_simp; done) | (go_simp; rfl)); intro gb158 hg w30 hbox hb; have n0_ := Ax.mk (Kd.V_below (Kd.V_elderB (by exact Kd.V_to HO0_1.out) gb158 (Nat.le_of_eq hg.symm)) hb); have n1_ := Ax.mk (bP bA hb); have n2_ := Ax.mk (hbox); have n3_ := Ax.mk ((ge_new hg : w.heap.size ≤ gb158)); have n4_ := n3_; clear HO0_1; clear HB; have HO0_1 := n0_; have HB := n1_; have BK158 := n2_; have GW158 := n3_; have GE158 := n4_; clear n0_ n1_ n2_ n3_ n4_; clear hb hbox hg) | ((with_reducible refine gate_dst (N := 4) rfl ?_); refine box_event ?hg (N := 4) ?hd (cs := #[.int .u64 0, .slice none 0 0, .string (⟨#[]⟩ : ByteArray)]) (t := 66) ?hr ?_; (case hd => rfl); (case hg => rfl); (case hr => first | (go_simp; done) | (go_simp; rfl)); intro gb159 hg w31 hbox hb; have n0_ := Ax.mk (Kd.V_below (Kd.V_elderB (by exact Kd.V_to HO0_1.out) gb159 (Nat.le_of_eq hg.symm)) hb); have n1_ := Ax.mk (bB (bT BK158.out) hb); have n2_ := Ax.mk (bP bA hb); have n3_ := Ax.mk (hbox); have n4_ := Ax.mk ((ge_new hg : w.heap.size ≤ gb159)); have n5_ := n4_; have n6_ := Ax.mk ((ne_lt hg BK158.out : gb158 ≠ gb159)); have n7_ := Ax.mk ((ne_gt hg BK158.out : gb159 ≠ gb158)); clear HO0_1; clear BK158; clear HB; have HO0_1 := n0_; have BK158 := n1_; have HB := n2_; have BK159 := n3_; have GW159 := n4_; have GE159 := n5_; have NB158_159 := n6_; have NB159_158 := n7_; clear n0_ n1_ n2_ n3_ n4_ n5_ n6_ n7_; clear hb hbox hg; have hnb32 := NB158_159.out; have hnc32 := NB159_158.out; have hcz33_0 : w31.cell? ⟨gb158, 0, none⟩ = some (.int .u64 a0_0) := (bC BK158.out 0).trans rfl; have hcz33_1 : w31.cell? ⟨gb158, 1, none⟩ = some (.slice A0_1 l0_1.length c0_1) := (bC BK158.out 1).trans rfl; have hcz33_2 : w31.cell? ⟨gb158, 2, none⟩ = some (.string a0_2) := (bC BK158.out 2).trans rfl; have hfz33_0 := bF BK158.out 0; have hfz33_1 := bF BK158.out 1; have hfz33_2 := bF BK158.out 2) | ((with_reducible refine gate_callee (f := 62) rfl ?_); refine goesL_ (some 15) rfl rfl Tryd.func62 (by kernel_rfl) rfl #[.agg #[.int .u64 a0_0, .slice A0_1 l0_1.length c0_1, .string a0_2], .agg #[.int .u64 (IntKind.u64.wrap (a0_0 + 1)), .slice A1 l1.length c1]] rfl (by (try simp only [List.map_toArray, List.map_cons, List.map_nil]); first | done | rfl | (simp only [List.length_drop, List.length_take]; rfl) | (rw [wrap_sum2 (by assumption)]; rfl)) ?_; (with_reducible refine (journal_Log_with.calls k a0_0 (fun k_ => (((P0_1_ k_ ∨ w.heap.size ≤ k_) ∧ k_ ≠ gb158) ∧ k_ ≠ gb159)) _ _ l0_1 a0_2 (IntKind.u64.wrap (a0_0 + 1)) _ _ l1 t160 t161 t164 t165 _ ?side1 ?side2 ?side3 A3.out (HT.below bA)).mono ?_); (case side1 => exact HO0_1.out); (case side2 => repeat (first | exact (Kd.C_below HR1.out HB.out) | (with_reducible refine Kd.C_alloc ?_ _) | (with_reducible refine Kd.C_drewN ?_ _) | (with_reducible refine Kd.C_drew ?_))); (case side3 => exact HC1.out); rintro e w34 ⟨v162, rfl, ho0, hb⟩; refine ⟨_, rfl, ?_⟩; have n0_ := Ax.mk (Kd.V_elder' (by exact Kd.V_to HO0_1.out) (Kd.N_base ho0) hb); have n1_ := Ax.mk (Kd.N_lower (Kd.N_mono (ok' := fun k_ => (P0_1_ k_ ∨ w.heap.size ≤ k_) ∧ k_ ≠ gb158 ∧ k_ ≠ gb159) ho0 (fun k_ hk_ => ⟨Or.elim hk_ (fun hs_ => hs_.1.1) (fun hn_ => (.inr (Nat.le_trans (bS bA) hn_))), Or.elim hk_ (fun hs_ => hs_.1.2) (fun hn_ => (Kd.freshB (g := gb158) (o := .cells #[.int .u64 a0_0, .slice A0_1 l0_1.length c0_1, .string a0_2] 66 (0, 0)) (bT BK158.out) k_ hn_)), Or.elim hk_ (fun hs_ => hs_.2) (fun hn_ => (Kd.freshB (g := gb159) (o := .cells #[.int .u64 0, .slice none 0 0, .string (⟨#[]⟩ : ByteArray)] 66 (0, 0)) (bT BK159.out) k_ hn_))⟩)) (bS bA)); have n2_ := Ax.mk (bB (bT BK158.out) hb); have n3_ := Ax.mk (bB (bT BK159.out) hb); have n4_ := Ax.mk (bP bA hb); clear HO0_1; clear BK158; clear BK159; clear HB; have HO0_1 := n0_; have HO163 := n1_; have BK158 := n2_; have BK159 := n3_; have HB := n4_; clear n0_ n1_ n2_ n3_ n4_; (try clear hb); (try clear hb2); (try clear hk); (try clear hi); (try clear ho0)) | ((with_reducible refine gate_dst (N := 6) rfl ?_); refine box_event ?hg (N := 6) ?hd (cs := #[.int .u64 0, .slice none 0 0, .string (⟨#[]⟩ : ByteArray)]) (t := 66) ?hr ?_; (case hd => rfl); (case hg => rfl); (case hr => first | (go_simp; done) | (go_simp; rfl)); intro gb166 hg w35 hbox hb; have n0_ := Ax.mk (Kd.V_below (Kd.V_elderB (by exact Kd.V_to HO0_1.out) gb166 (Nat.le_of_eq hg.symm)) hb); have n1_ := Ax.mk (Kd.N_below (Kd.N_elderB (by exact Kd.N_to HO163.out) gb166 (Nat.le_of_eq hg.symm)) hb); have n2_ := Ax.mk (bB (bT BK158.out) hb); have n3_ := Ax.mk (bB (bT BK159.out) hb); have n4_ := Ax.mk (bP bA hb); have n5_ := Ax.mk (hbox); have n6_ := Ax.mk ((ge_new hg : w.heap.size ≤ gb166)); have n7_ := n6_; have n8_ := Ax.mk ((ne_lt hg BK158.out : gb158 ≠ gb166)); have n9_ := Ax.mk ((ne_gt hg BK158.out : gb166 ≠ gb158)); have n10_ := Ax.mk ((ne_lt hg BK159.out : gb159 ≠ gb166)); have n11_ := Ax.mk ((ne_gt hg BK159.out : gb166 ≠ gb159)); clear HO0_1; clear HO163; clear BK158; clear BK159; clear HB; have HO0_1 := n0_; have HO163 := n1_; have BK158 := n2_; have BK159 := n3_; have HB := n4_; have BK166 := n5_; have GW166 := n6_; have GE166 := n7_; have NB158_166 := n8_; have NB166_158 := n9_; have NB159_166 := n10_; have NB166_159 := n11_; clear n0_ n1_ n2_ n3_ n4_ n5_ n6_ n7_ n8_ n9_ n10_ n11_; clear hb hbox hg; have hnb36 := NB166_158.out; have hnc36 := NB158_166.out; have hnb37 := NB166_159.out; have hnc37 := NB159_166.out; have hcz38_0 : w35.cell? ⟨gb166, 0, none⟩ = some (.int .u64 0) := (bC BK166.out 0).trans rfl; have hcz38_1 : w35.cell? ⟨gb166, 1, none⟩ = some (.slice none 0 0) := (bC BK166.out 1).trans rfl; have hcz38_2 : w35.cell? ⟨gb166, 2, none⟩ = some (.string (⟨#[]⟩ : ByteArray)) := (bC BK166.out 2).trans rfl; have hfz38_0 := bF BK166.out 0; have hfz38_1 := bF BK166.out 1; have hfz38_2 := bF BK166.out 2; obtain ⟨Ao39, co39, eo39⟩ := Kd.N_slice HO163.out; subst eo39; have hcz40_0 : w35.cell? ⟨gb159, 0, none⟩ = some (.int .u64 0) := (bC BK159.out 0).trans rfl; have hcz40_1 : w35.cell? ⟨gb159, 1, none⟩ = some (.slice none 0 0) := (bC BK159.out 1).trans rfl; have hcz40_2 : w35.cell? ⟨gb159, 2, none⟩ = some (.string (⟨#[]⟩ : ByteArray)) := (bC BK159.out 2).trans rfl; have hfz40_0 := bF BK159.out 0; have hfz40_1 := bF BK159.out 1; have hfz40_2 := bF BK159.out 2))
  refine bodyPost_ret (results_ct rfl _ _ gb159 66 #[.int .u64 0, .slice none 0 0, .string (⟨#[]⟩ : ByteArray)] (0, 0) _ rfl (by refine bT ?_; refine bU (cs := #[.int .u64 0, .slice none 0 0, .string (⟨#[]⟩ : ByteArray)]) ?_ 2 _ rfl; refine bT ?_; refine bU (cs := #[.int .u64 0, .slice none 0 0, .string (⟨#[]⟩ : ByteArray)]) ?_ 1 _ rfl; refine bT ?_; refine bU (cs := #[.int .u64 0, .slice none 0 0, .string (⟨#[]⟩ : ByteArray)]) ?_ 0 _ rfl; refine bT ?_; refine bR ?_ NB159_166.out _; refine bT ?_; refine bR ?_ NB159_166.out _; refine bT ?_; refine bR ?_ NB159_166.out _; exact bT BK159.out) Tryd.underlying66 rfl (by kernel_rfl)) rfl ?_
  exact ⟨_, by first | rfl | (simp [errW_none, errW_some] <;> rfl) | (simp [*, errW_none, errW_some] <;> rfl), by first | exact Kd.S_nil _ _ _ _ _ | exact Kd.N_nil _ _ _ _ _ | exact Kd.V_nil _ _ _ _ _ | exact Kd.Q_nil _ _ _ _ _ | exact Kd.R_nil _ _ _ _ _, bA⟩
def journal_New.f (k : Nat) (a0 : Int) (l1 : List (S24)) : Option (Int × (List (S44)) × ByteArray × Int) := (journal_Log_with.f k 0 ([] : List (S44)) (⟨#[]⟩ : ByteArray) a0 l1).bind fun bt152 => (some (bt152.1, bt152.2.1, bt152.2.2.1, bt152.2.2.2))
theorem journal_New.mono : ∀ a0 a1 k, LeO (journal_New.f k a0 a1) (journal_New.f (k + 1) a0 a1) := by
 intro a0 a1 k
 unfold journal_New.f
 repeat' first
   | (with_reducible exact journal_Log_with.mono _ _ _ _ _ _)
   | (with_reducible exact LeO.refl _)
   | (with_reducible exact LeO.none _)
   | (with_reducible refine LeO.ite ?_ ?_)
   | (with_reducible refine LeO.bind ?_ (fun _ => ?_))
   | exact journal_Log_with.mono _ _ _ _ _ _
   | exact LeO.none _
   | refine LeO.ite ?_ ?_
   | refine LeO.bind ?_ (fun _ => ?_)
set_option maxHeartbeats 8000000 in
set_option maxRecDepth 100000 in
theorem journal_New.calls (k : Nat) (a0 : Int) (A1 : Option Addr) (c1 : Nat) (l1 : List (S24)) (r1 : Int) (r2 : List (S44)) (r3 : ByteArray) (r4 : Int) (w : World) (hr1 : Kd.C k24 w A1 l1.length l1) (hc1 : l1.length ≤ c1) (h : journal_New.f k a0 l1 = some (r1, r2, r3, r4)) (HT : Tabs w) :
  Calls Tryd.prog 38 #[.int .u64 a0, .slice A1 l1.length c1] w fun e w' => ∃ v1_ : Value, e = .returned (.tuple #[.agg #[.int .u64 r1, v1_, .string r3], .int .i64 r4]) ∧ Kd.N k44 44 w' w.heap.size (fun k_ => (w.heap.size ≤ k_)) v1_ r2 ∧ Below w.heap.size w w' := by
 have hu66 := Tryd.underlying66
 have hu44 := Tryd.underlying44
 have HR1 := Ax.mk hr1
 have HC1 := Ax.mk hc1
 clear hr1 hc1
 have HB := Ax.mk (Below.refl w.heap.size w)
 have H : ((journal_Log_with.f k 0 ([] : List (S44)) (⟨#[]⟩ : ByteArray) a0 l1).bind fun bt152 => (some (bt152.1, bt152.2.1, bt152.2.2.1, bt152.2.2.2))) = some (r1, r2, r3, r4) := h
 clear h
 replace H := Option.bind_eq_some_iff.mp H
 obtain ⟨⟨t152, t153, t156, t157⟩, A30, H⟩ := H
 replace H : (some (t152, t153, t156, t157)) = some (r1, r2, r3, r4) := H
 have A3 := Ax.mk A30
 clear A30
 simp only [Option.some.injEq, Prod.mk.injEq] at H
 obtain ⟨rfl, rfl, rfl, rfl⟩ := H
 go_enter Tryd.func38, Tryd.ntmps38
 go_wp2_with (first | ((with_reducible refine gate_dst (N := 4) rfl ?_); refine box_event ?hg (N := 4) ?hd (cs := #[.int .u64 0, .slice none 0 0, .string (⟨#[]⟩ : ByteArray)]) (t := 66) ?hr ?_; (case hd => rfl); (case hg => rfl); (case hr => first | (go_simp; done) | (go_simp; rfl)); intro gb151 hg w4 hbox hb; have n0_ := Ax.mk (bP bA hb); have n1_ := Ax.mk (hbox); have n2_ := Ax.mk ((ge_new hg : w.heap.size ≤ gb151)); have n3_ := n2_; clear HB; have HB := n0_; have BK151 := n1_; have GW151 := n2_; have GE151 := n3_; clear n0_ n1_ n2_ n3_; clear hb hbox hg) | ((with_reducible refine gate_callee (f := 62) rfl ?_); refine goesL_ (some 10) rfl rfl Tryd.func62 (by kernel_rfl) rfl #[.agg #[.int .u64 0, .slice none 0 0, .string (⟨#[]⟩ : ByteArray)], .agg #[.int .u64 a0, .slice A1 l1.length c1]] rfl (by (try simp only [List.map_toArray, List.map_cons, List.map_nil]); first | done | rfl | (simp only [List.length_drop, List.length_take]; rfl) | (rw [wrap_sum2 (by assumption)]; rfl)) ?_; (refine (journal_Log_with.calls k 0 (fun k_ => False) _ _ ([] : List (S44)) (⟨#[]⟩ : ByteArray) a0 _ _ l1 t152 t153 t156 t157 _ ?side1 ?side2 ?side3 A3.out (HT.below bA)).mono ?_); (case side1 => exact Kd.V_nil _ _ _ _ _); (case side2 => repeat (first | exact (Kd.C_below HR1.out HB.out) | (with_reducible refine Kd.C_alloc ?_ _) | (with_reducible refine Kd.C_drewN ?_ _) | (with_reducible refine Kd.C_drew ?_))); (case side3 => exact HC1.out); rintro e w5 ⟨v154, rfl, ho0, hb⟩; refine ⟨_, rfl, ?_⟩; have n0_ := Ax.mk (Kd.N_lower (Kd.N_mono (ok' := fun k_ => (w.heap.size ≤ k_) ∧ k_ ≠ gb151) ho0 (fun k_ hk_ => ⟨Or.elim hk_ (fun hs_ => (hs_).elim) (fun hn_ => (Nat.le_trans (bS bA) hn_)), Or.elim hk_ (fun hs_ => (hs_).elim) (fun hn_ => (Kd.freshB (g := gb151) (o := .cells #[.int .u64 0, .slice none 0 0, .string (⟨#[]⟩ : ByteArray)] 66 (0, 0)) (bT BK151.out) k_ hn_))⟩)) (bS bA)); have n1_ := Ax.mk (bB (bT BK151.out) hb); have n2_ := Ax.mk (bP bA hb); clear BK151; clear HB; have HO155 := n0_; have BK151 := n1_; have HB := n2_; clear n0_ n1_ n2_; (try clear hb); (try clear hb2); (try clear hk); (try clear hi); (try clear ho0); have hcz6_0 : w5.cell? ⟨gb151, 0, none⟩ = some (.int .u64 0) := (bC BK151.out 0).trans rfl; have hcz6_1 : w5.cell? ⟨gb151, 1, none⟩ = some (.slice none 0 0) := (bC BK151.out 1).trans rfl; have hcz6_2 : w5.cell? ⟨gb151, 2, none⟩ = some (.string (⟨#[]⟩ : ByteArray)) := (bC BK151.out 2).trans rfl; have hfz6_0 := bF BK151.out 0; have hfz6_1 := bF BK151.out 1; have hfz6_2 := bF BK151.out 2; obtain ⟨Ao7, co7, eo7⟩ := Kd.N_slice HO155.out; subst eo7))
 refine bodyPost_ret (results_ct rfl _ _ gb151 66 #[.int .u64 t152, .slice Ao7 t153.length co7, .string t156] (0, 0) _ rfl (by refine bT ?_; refine bU (cs := #[.int .u64 t152, .slice Ao7 t153.length co7, .string (⟨#[]⟩ : ByteArray)]) ?_ 2 _ rfl; refine bT ?_; refine bU (cs := #[.int .u64 t152, .slice none 0 0, .string (⟨#[]⟩ : ByteArray)]) ?_ 1 _ rfl; refine bT ?_; refine bU (cs := #[.int .u64 0, .slice none 0 0, .string (⟨#[]⟩ : ByteArray)]) ?_ 0 _ rfl; exact bT BK151.out) Tryd.underlying66 rfl (by kernel_rfl)) rfl ?_
 exact ⟨_, by first | rfl | (simp [errW_none, errW_some] <;> rfl) | (simp [*, errW_none, errW_some] <;> rfl), by apply Kd.N_to; exact Kd.N_mono (Kd.N_far (p := ⟨gb151, 2, none⟩) (Kd.N_far (p := ⟨gb151, 1, none⟩) (Kd.N_far (p := ⟨gb151, 0, none⟩) (Kd.N_mono HO155.out (fun k_ hk => (⟨hk, hk.2⟩ : _ ∧ k_ ≠ gb151))) (fun _ hk => hk.2) (.int .u64 t152)) (fun _ hk => hk.2) (.slice Ao7 t153.length co7)) (fun _ hk => hk.2) (.string t156)) (fun _ hk => hk.1.1), bA⟩
def r13_bytes.l0 : Nat → ByteArray → Int → Int → List (S26) → Option (ByteArray × Int)
 | 0, _, _, _, _ => none
 | k + 1, x4, x5, x249000, x249001 => if x5 < (x249001.length : Int) then (if 0 ≤ x5 then ((r12_Put.f k ((rd_T26 x249001 x5).f0) ((rd_T26 x249001 x5).f1) ((rd_T26 x249001 x5).f2) ((rd_T26 x249001 x5).f3) ((rd_T26 x249001 x5).f4)).bind fun bt250 => (if bt250.2 = 0 then (if ((rd_T26 x249001 x5).f0) = 8 then (some ((⟨#[]⟩ : ByteArray), 1)) else (if x4.size + bt250.1.size ≤ 9223372036854775807 then (r13_bytes.l0 k (x4 ++ bt250.1) (wrap64 (x5 + 1)) x249000 x249001) else (none))) else (some ((⟨#[]⟩ : ByteArray), 1)))) else (none)) else ((r12_Put.f k 8 0 0 x249000 (⟨#[]⟩ : ByteArray)).bind fun bt253 => (if x4.size + bt253.1.size ≤ 9223372036854775807 then (some (x4 ++ bt253.1, 0)) else (none)))
def r13_bytes.f (k : Nat) (a0_0 : Int) (l0_1 : List (S26)) : Option (ByteArray × Int) := r13_bytes.l0 k (⟨#[]⟩ : ByteArray) 0 a0_0 l0_1
theorem r13_bytes.mono_l : ∀ k, (∀ y0 y1 y2 y3, LeO (r13_bytes.l0 k y0 y1 y2 y3) (r13_bytes.l0 (k + 1) y0 y1 y2 y3))
 | 0 => fun _ _ _ _ r h => by simp [r13_bytes.l0] at h
 | k + 1 => by
  have ih0 := r13_bytes.mono_l k
  ·intro y0 y1 y2 y3
   unfold r13_bytes.l0
   repeat' first
   | (with_reducible exact ih0 _ _ _ _)
   | (with_reducible exact r12_Put.mono _ _ _ _ _ _)
   | (with_reducible exact LeO.refl _)
   | (with_reducible exact LeO.none _)
   | (with_reducible refine LeO.ite ?_ ?_)
   | (with_reducible refine LeO.bind ?_ (fun _ => ?_))
   | exact ih0 _ _ _ _
   | exact r12_Put.mono _ _ _ _ _ _
   | exact LeO.none _
   | refine LeO.ite ?_ ?_
   | refine LeO.bind ?_ (fun _ => ?_)
theorem r13_bytes.mono : ∀ a0 a1 k, LeO (r13_bytes.f k a0 a1) (r13_bytes.f (k + 1) a0 a1) := by
 intro a0 a1 k
 have ih0 := r13_bytes.mono_l k
 unfold r13_bytes.f
 repeat' first
   | (with_reducible exact ih0 _ _ _ _)
   | (with_reducible exact r12_Put.mono _ _ _ _ _ _)
   | (with_reducible exact LeO.refl _)
   | (with_reducible exact LeO.none _)
   | (with_reducible refine LeO.ite ?_ ?_)
   | (with_reducible refine LeO.bind ?_ (fun _ => ?_))
   | exact ih0 _ _ _ _
   | exact r12_Put.mono _ _ _ _ _ _
   | exact LeO.none _
   | refine LeO.ite ?_ ?_
   | refine LeO.bind ?_ (fun _ => ?_)
set_option maxHeartbeats 8000000 in
set_option maxRecDepth 100000 in
theorem r13_bytes.calls (k : Nat) (a0_0 : Int) (A0_1 : Option Addr) (c0_1 : Nat) (l0_1 : List (S26)) (r1 : ByteArray) (r2 : Int) (w : World) (hr0_1 : Kd.C k26 w A0_1 l0_1.length l0_1) (hc0_1 : l0_1.length ≤ c0_1) (h : r13_bytes.f k a0_0 l0_1 = some (r1, r2)) :
  Calls Tryd.prog 65 #[.agg #[.int .u64 a0_0, .slice A0_1 l0_1.length c0_1]] w fun e w' => e = .returned (.tuple #[.string r1, .int .i64 r2]) ∧ Below w.heap.size w w' := by
 have hu46 := Tryd.underlying46
 have hu26 := Tryd.underlying26
 have HR0_1 := Ax.mk hr0_1
 have HC0_1 := Ax.mk hc0_1
 clear hr0_1 hc0_1
 have HB := Ax.mk (Below.refl w.heap.size w)
 have H : (r13_bytes.l0 k (⟨#[]⟩ : ByteArray) 0 a0_0 l0_1) = some (r1, r2) := h
 clear h
 have H' := Ax.mk H
 clear H
 go_enter Tryd.func65, Tryd.ntmps65
 go_wp2_with (first | ((with_reducible refine gate_dst (N := 1) rfl ?_); refine box_event ?hg (N := 1) ?hd (cs := #[.int .u64 a0_0, .slice A0_1 l0_1.length c0_1]) (t := 46) ?hr ?_; (case hd => rfl); (case hg => rfl); (case hr => first | (go_simp; done) | (go_simp; rfl)); intro gb248 hg w2 hbox hb; have n0_ := Ax.mk (bP bA hb); have n1_ := Ax.mk (hbox); have n2_ := Ax.mk ((ge_new hg : w.heap.size ≤ gb248)); have n3_ := n2_; clear HB; have HB := n0_; have BK248 := n1_; have GW248 := n2_; have GE248 := n3_; clear n0_ n1_ n2_ n3_; clear hb hbox hg))
 go_loopg [4, 5] k (fun kq v4 v5 w' => ∃ (x4_1 : ByteArray) (x5_1 : Int), v4 = .string x4_1 ∧ v5 = .int .i64 x5_1 ∧ Ax (r13_bytes.l0 kq x4_1 x5_1 a0_0 l0_1 = some (r1, r2)) ∧ Ax (kq ≤ k) ∧ Ax (w'.heap[gb248]? = some (.cells #[.int .u64 a0_0, (.slice A0_1 l0_1.length c0_1)] 46 (0, 0))) ∧ Ax (Below w.heap.size w w'))
 case atStart => exact ⟨((⟨#[]⟩ : ByteArray)), (0), (by first | rfl | (simp; done) | (simp [*]; done)), (by first | rfl | (simp; done) | (simp [*]; done)), H', ⟨Nat.le_refl _⟩, ⟨by refine bT ?_; exact BK248.out⟩, ⟨bA⟩⟩
 case round =>
  clear H'
  try clear p2
  obtain ⟨x4_1, x5_1, rfl, rfl, HA, HK1, BK248, HB⟩ := hrel
  cases gk with
  | zero => exact absurd HA.out (by simp [r13_bytes.l0])
  | succ k1 =>
   have H := HA.out
   clear HA
   simp only [r13_bytes.l0] at H
   by_cases c3 : x5_1 < (l0_1.length : Int)
   ·rw [if_pos c3] at H
    have c3b0 : decide (x5_1 < (l0_1.length : Int)) = true := decide_eq_true c3
    clear c3
    by_cases c4 : 0 ≤ x5_1
    ·rw [if_pos c4] at H
     have c4b0 : decide (0 ≤ x5_1) = true := decide_eq_true c4
     clear c4
     replace H := Option.bind_eq_some_iff.mp H
     obtain ⟨⟨t250, t251⟩, A50, H⟩ := H
     replace H : (if t251 = 0 then (if ((rd_T26 l0_1 x5_1).f0) = 8 then (some ((⟨#[]⟩ : ByteArray), 1)) else (if x4_1.size + t250.size ≤ 9223372036854775807 then (r13_bytes.l0 k1 (x4_1 ++ t250) (wrap64 (x5_1 + 1)) a0_0 l0_1) else (none))) else (some ((⟨#[]⟩ : ByteArray), 1))) = some (r1, r2) := H
     have A5 := Ax.mk A50
     clear A50
     by_cases c6 : t251 = 0
     ·rw [if_pos c6] at H
      have c6b0 : (t251 == 0) = true := beq_iff_eq.mpr c6
      have c6b1 : (t251 != 0) = false := bne_eq_false_iff_eq.mpr c6
      clear c6
      by_cases c7 : ((rd_T26 l0_1 x5_1).f0) = 8
      ·rw [if_pos c7] at H
       have c7b0 : (((rd_T26 l0_1 x5_1).f0) == 8) = true := beq_iff_eq.mpr c7
       have c7b1 : (((rd_T26 l0_1 x5_1).f0) != 8) = false := bne_eq_false_iff_eq.mpr c7
       clear c7
       simp only [Option.some.injEq, Prod.mk.injEq] at H
       obtain ⟨rfl, rfl⟩ := H
       have hcz8_0 : wr.cell? ⟨gb248, 0, none⟩ = some (.int .u64 a0_0) := (bC BK248.out 0).trans rfl
       have hcz8_1 : wr.cell? ⟨gb248, 1, none⟩ = some (.slice A0_1 l0_1.length c0_1) := (bC BK248.out 1).trans rfl
       have hfz8_0 := bF BK248.out 0
       have hfz8_1 := bF BK248.out 1
       have p249 : 0 ≤ (x5_1 : Int) := of_decide_eq_true (by first | (with_reducible assumption) | assumption)
       have q249 : x5_1 < (l0_1.length : Int) := of_decide_eq_true (by first | (with_reducible assumption) | assumption)
       obtain ⟨ad249, e249, hx249_0, hx249_1, hx249_2, hx249_3, hx249_4⟩ := at_T26 HR0_1.out x5_1 p249 q249
       cases e249
       replace hx249_0 := (HB.out.cell (World.block_lt_of_cell? w _ hx249_0)).trans hx249_0
       replace hx249_1 := (HB.out.cell (World.block_lt_of_cell? w _ hx249_1)).trans hx249_1
       replace hx249_2 := (HB.out.cell (World.block_lt_of_cell? w _ hx249_2)).trans hx249_2
       replace hx249_3 := (HB.out.cell (World.block_lt_of_cell? w _ hx249_3)).trans hx249_3
       replace hx249_4 := (HB.out.cell (World.block_lt_of_cell? w _ hx249_4)).trans hx249_4
       replace p249 := eq_true p249
       replace q249 := eq_true q249
       go_wp2_with (first | ((with_reducible refine gate_callee (f := 20) rfl ?_); refine goesL_ (some 23) rfl rfl Tryd.func20 (by kernel_rfl) rfl #[.agg #[.int .i64 ((rd_T26 l0_1 x5_1).f0), .int .i64 ((rd_T26 l0_1 x5_1).f1), .int .i64 ((rd_T26 l0_1 x5_1).f2), .int .u64 ((rd_T26 l0_1 x5_1).f3), .string ((rd_T26 l0_1 x5_1).f4)]] rfl (by (try simp only [List.map_toArray, List.map_cons, List.map_nil]); first | done | rfl | (simp only [List.length_drop, List.length_take]; rfl) | (rw [wrap_sum2 (by assumption)]; rfl)) ?_; (with_reducible refine (r12_Put.calls k1 ((rd_T26 l0_1 x5_1).f0) ((rd_T26 l0_1 x5_1).f1) ((rd_T26 l0_1 x5_1).f2) ((rd_T26 l0_1 x5_1).f3) ((rd_T26 l0_1 x5_1).f4) t250 t251 _ A5.out).mono ?_); rintro e w9 ⟨rfl, hb⟩; refine ⟨_, rfl, ?_⟩; have n0_ := Ax.mk (bB (bT BK248.out) hb); have n1_ := Ax.mk (bP bA hb); clear BK248; clear HB; have BK248 := n0_; have HB := n1_; clear n0_ n1_; (try clear hb); (try clear hb2); (try clear hk); (try clear hi); have hcz10_0 : w9.cell? ⟨gb248, 0, none⟩ = some (.int .u64 a0_0) := (bC BK248.out 0).trans rfl; have hcz10_1 : w9.cell? ⟨gb248, 1, none⟩ = some (.slice (some ad249) l0_1.length c0_1) := (bC BK248.out 1).trans rfl; have hfz10_0 := bF BK248.out 0; have hfz10_1 := bF BK248.out 1; have p252 : 0 ≤ (x5_1 : Int) := of_decide_eq_true (by first | (with_reducible assumption) | assumption); have q252 : x5_1 < (l0_1.length : Int) := of_decide_eq_true (by first | (with_reducible assumption) | assumption); obtain ⟨ad252, e252, hx252_0, hx252_1, hx252_2, hx252_3, hx252_4⟩ := at_T26 HR0_1.out x5_1 p252 q252; obtain rfl : ad249 = ad252 := (by injection e252); replace hx252_0 := (HB.out.cell (World.block_lt_of_cell? w _ hx252_0)).trans hx252_0; replace hx252_1 := (HB.out.cell (World.block_lt_of_cell? w _ hx252_1)).trans hx252_1; replace hx252_2 := (HB.out.cell (World.block_lt_of_cell? w _ hx252_2)).trans hx252_2; replace hx252_3 := (HB.out.cell (World.block_lt_of_cell? w _ hx252_3)).trans hx252_3; replace hx252_4 := (HB.out.cell (World.block_lt_of_cell? w _ hx252_4)).trans hx252_4; replace p252 := eq_true p252; replace q252 := eq_true q252))
       go_ret2
       exact ⟨by first | rfl | (simp [errW_none, errW_some] <;> rfl) | (simp [*, errW_none, errW_some] <;> rfl), bA⟩
      ·rw [if_neg c7] at H
       have c7b0 : (((rd_T26 l0_1 x5_1).f0) == 8) = false := beq_eq_false_iff_ne.mpr c7
       have c7b1 : (((rd_T26 l0_1 x5_1).f0) != 8) = true := bne_iff_ne.mpr c7
       by_cases c11 : x4_1.size + t250.size ≤ 9223372036854775807
       ·rw [if_pos c11] at H
        have c11b0 := eq_true c11
        have c11b1 : decide (x4_1.size + t250.size ≤ 9223372036854775807) = true := decide_eq_true c11
        try have c11b2 : (9223372036854775807 < x4_1.size + t250.size) = False := eq_false (Nat.not_lt.2 c11)
        have H' := Ax.mk H
        clear H
        have hcz12_0 : wr.cell? ⟨gb248, 0, none⟩ = some (.int .u64 a0_0) := (bC BK248.out 0).trans rfl
        have hcz12_1 : wr.cell? ⟨gb248, 1, none⟩ = some (.slice A0_1 l0_1.length c0_1) := (bC BK248.out 1).trans rfl
        have hfz12_0 := bF BK248.out 0
        have hfz12_1 := bF BK248.out 1
        have p249 : 0 ≤ (x5_1 : Int) := of_decide_eq_true (by first | (with_reducible assumption) | assumption)
        have q249 : x5_1 < (l0_1.length : Int) := of_decide_eq_true (by first | (with_reducible assumption) | assumption)
        obtain ⟨ad249, e249, hx249_0, hx249_1, hx249_2, hx249_3, hx249_4⟩ := at_T26 HR0_1.out x5_1 p249 q249
        cases e249
        replace hx249_0 := (HB.out.cell (World.block_lt_of_cell? w _ hx249_0)).trans hx249_0
        replace hx249_1 := (HB.out.cell (World.block_lt_of_cell? w _ hx249_1)).trans hx249_1
        replace hx249_2 := (HB.out.cell (World.block_lt_of_cell? w _ hx249_2)).trans hx249_2
        replace hx249_3 := (HB.out.cell (World.block_lt_of_cell? w _ hx249_3)).trans hx249_3
        replace hx249_4 := (HB.out.cell (World.block_lt_of_cell? w _ hx249_4)).trans hx249_4
        replace p249 := eq_true p249
        replace q249 := eq_true q249
        go_wp2_with (first | ((with_reducible refine gate_callee (f := 20) rfl ?_); refine goesL_ (some 23) rfl rfl Tryd.func20 (by kernel_rfl) rfl #[.agg #[.int .i64 ((rd_T26 l0_1 x5_1).f0), .int .i64 ((rd_T26 l0_1 x5_1).f1), .int .i64 ((rd_T26 l0_1 x5_1).f2), .int .u64 ((rd_T26 l0_1 x5_1).f3), .string ((rd_T26 l0_1 x5_1).f4)]] rfl (by (try simp only [List.map_toArray, List.map_cons, List.map_nil]); first | done | rfl | (simp only [List.length_drop, List.length_take]; rfl) | (rw [wrap_sum2 (by assumption)]; rfl)) ?_; (with_reducible refine (r12_Put.calls k1 ((rd_T26 l0_1 x5_1).f0) ((rd_T26 l0_1 x5_1).f1) ((rd_T26 l0_1 x5_1).f2) ((rd_T26 l0_1 x5_1).f3) ((rd_T26 l0_1 x5_1).f4) t250 t251 _ A5.out).mono ?_); rintro e w13 ⟨rfl, hb⟩; refine ⟨_, rfl, ?_⟩; have n0_ := Ax.mk (bB (bT BK248.out) hb); have n1_ := Ax.mk (bP bA hb); clear BK248; clear HB; have BK248 := n0_; have HB := n1_; clear n0_ n1_; (try clear hb); (try clear hb2); (try clear hk); (try clear hi); have hcz14_0 : w13.cell? ⟨gb248, 0, none⟩ = some (.int .u64 a0_0) := (bC BK248.out 0).trans rfl; have hcz14_1 : w13.cell? ⟨gb248, 1, none⟩ = some (.slice (some ad249) l0_1.length c0_1) := (bC BK248.out 1).trans rfl; have hfz14_0 := bF BK248.out 0; have hfz14_1 := bF BK248.out 1; have p252 : 0 ≤ (x5_1 : Int) := of_decide_eq_true (by first | (with_reducible assumption) | assumption); have q252 : x5_1 < (l0_1.length : Int) := of_decide_eq_true (by first | (with_reducible assumption) | assumption); obtain ⟨ad252, e252, hx252_0, hx252_1, hx252_2, hx252_3, hx252_4⟩ := at_T26 HR0_1.out x5_1 p252 q252; obtain rfl : ad249 = ad252 := (by injection e252); replace hx252_0 := (HB.out.cell (World.block_lt_of_cell? w _ hx252_0)).trans hx252_0; replace hx252_1 := (HB.out.cell (World.block_lt_of_cell? w _ hx252_1)).trans hx252_1; replace hx252_2 := (HB.out.cell (World.block_lt_of_cell? w _ hx252_2)).trans hx252_2; replace hx252_3 := (HB.out.cell (World.block_lt_of_cell? w _ hx252_3)).trans hx252_3; replace hx252_4 := (HB.out.cell (World.block_lt_of_cell? w _ hx252_4)).trans hx252_4; replace p252 := eq_true p252; replace q252 := eq_true q252))
        go_roundg k1
        case measure => have := HK1.out; omega
        case rel => exact ⟨(x4_1 ++ t250), (wrap64 (x5_1 + 1)), (by first | rfl | (simp; done) | (simp [*]; done)), (by first | rfl | (simp; done) | (simp [*]; done)), H', ⟨by have := HK1.out; omega⟩, ⟨by refine bT ?_; exact BK248.out⟩, ⟨bA⟩⟩
       ·rw [if_neg c11] at H
        exact absurd H (by simp)
     ·rw [if_neg c6] at H
      have c6b0 : (t251 == 0) = false := beq_eq_false_iff_ne.mpr c6
      have c6b1 : (t251 != 0) = true := bne_iff_ne.mpr c6
      simp only [Option.some.injEq, Prod.mk.injEq] at H
      obtain ⟨rfl, rfl⟩ := H
      have hcz15_0 : wr.cell? ⟨gb248, 0, none⟩ = some (.int .u64 a0_0) := (bC BK248.out 0).trans rfl
      have hcz15_1 : wr.cell? ⟨gb248, 1, none⟩ = some (.slice A0_1 l0_1.length c0_1) := (bC BK248.out 1).trans rfl
      have hfz15_0 := bF BK248.out 0
      have hfz15_1 := bF BK248.out 1
      have p249 : 0 ≤ (x5_1 : Int) := of_decide_eq_true (by first | (with_reducible assumption) | assumption)
      have q249 : x5_1 < (l0_1.length : Int) := of_decide_eq_true (by first | (with_reducible assumption) | assumption)
      obtain ⟨ad249, e249, hx249_0, hx249_1, hx249_2, hx249_3, hx249_4⟩ := at_T26 HR0_1.out x5_1 p249 q249
      cases e249
      replace hx249_0 := (HB.out.cell (World.block_lt_of_cell? w _ hx249_0)).trans hx249_0
      replace hx249_1 := (HB.out.cell (World.block_lt_of_cell? w _ hx249_1)).trans hx249_1
      replace hx249_2 := (HB.out.cell (World.block_lt_of_cell? w _ hx249_2)).trans hx249_2
      replace hx249_3 := (HB.out.cell (World.block_lt_of_cell? w _ hx249_3)).trans hx249_3
      replace hx249_4 := (HB.out.cell (World.block_lt_of_cell? w _ hx249_4)).trans hx249_4
      replace p249 := eq_true p249
      replace q249 := eq_true q249
      go_wp2_with (first | ((with_reducible refine gate_callee (f := 20) rfl ?_); refine goesL_ (some 23) rfl rfl Tryd.func20 (by kernel_rfl) rfl #[.agg #[.int .i64 ((rd_T26 l0_1 x5_1).f0), .int .i64 ((rd_T26 l0_1 x5_1).f1), .int .i64 ((rd_T26 l0_1 x5_1).f2), .int .u64 ((rd_T26 l0_1 x5_1).f3), .string ((rd_T26 l0_1 x5_1).f4)]] rfl (by (try simp only [List.map_toArray, List.map_cons, List.map_nil]); first | done | rfl | (simp only [List.length_drop, List.length_take]; rfl) | (rw [wrap_sum2 (by assumption)]; rfl)) ?_; (with_reducible refine (r12_Put.calls k1 ((rd_T26 l0_1 x5_1).f0) ((rd_T26 l0_1 x5_1).f1) ((rd_T26 l0_1 x5_1).f2) ((rd_T26 l0_1 x5_1).f3) ((rd_T26 l0_1 x5_1).f4) t250 t251 _ A5.out).mono ?_); rintro e w16 ⟨rfl, hb⟩; refine ⟨_, rfl, ?_⟩; have n0_ := Ax.mk (bB (bT BK248.out) hb); have n1_ := Ax.mk (bP bA hb); clear BK248; clear HB; have BK248 := n0_; have HB := n1_; clear n0_ n1_; (try clear hb); (try clear hb2); (try clear hk); (try clear hi)))
      go_ret2
      exact ⟨by first | rfl | (simp [errW_none, errW_some] <;> rfl) | (simp [*, errW_none, errW_some] <;> rfl), bA⟩
    ·rw [if_neg c4] at H
     exact absurd H (by simp)
   ·rw [if_neg c3] at H
    have c3b0 : decide (x5_1 < (l0_1.length : Int)) = false := decide_eq_false c3
    clear c3
    replace H := Option.bind_eq_some_iff.mp H
    obtain ⟨⟨t253, t254⟩, A170, H⟩ := H
    replace H : (if x4_1.size + t253.size ≤ 9223372036854775807 then (some (x4_1 ++ t253, 0)) else (none)) = some (r1, r2) := H
    have A17 := Ax.mk A170
    clear A170
    by_cases c18 : x4_1.size + t253.size ≤ 9223372036854775807
    ·rw [if_pos c18] at H
     have c18b0 := eq_true c18
     have c18b1 : decide (x4_1.size + t253.size ≤ 9223372036854775807) = true := decide_eq_true c18
     try have c18b2 : (9223372036854775807 < x4_1.size + t253.size) = False := eq_false (Nat.not_lt.2 c18)
     simp only [Option.some.injEq, Prod.mk.injEq] at H
     obtain ⟨rfl, rfl⟩ := H
     have hcz19_0 : wr.cell? ⟨gb248, 0, none⟩ = some (.int .u64 a0_0) := (bC BK248.out 0).trans rfl
     have hcz19_1 : wr.cell? ⟨gb248, 1, none⟩ = some (.slice A0_1 l0_1.length c0_1) := (bC BK248.out 1).trans rfl
     have hfz19_0 := bF BK248.out 0
     have hfz19_1 := bF BK248.out 1
     go_wp2_with (first | ((with_reducible refine gate_callee (f := 20) rfl ?_); refine goesL_ (some 44) rfl rfl Tryd.func20 (by kernel_rfl) rfl #[.agg #[.int .i64 8, .int .i64 0, .int .i64 0, .int .u64 a0_0, .string (⟨#[]⟩ : ByteArray)]] rfl (by (try simp only [List.map_toArray, List.map_cons, List.map_nil]); first | done | rfl | (simp only [List.length_drop, List.length_take]; rfl) | (rw [wrap_sum2 (by assumption)]; rfl)) ?_; (with_reducible refine (r12_Put.calls k1 8 0 0 a0_0 (⟨#[]⟩ : ByteArray) t253 t254 _ A17.out).mono ?_); rintro e w20 ⟨rfl, hb⟩; refine ⟨_, rfl, ?_⟩; have n0_ := Ax.mk (bB (bT BK248.out) hb); have n1_ := Ax.mk (bP bA hb); clear BK248; clear HB; have BK248 := n0_; have HB := n1_; clear n0_ n1_; (try clear hb); (try clear hb2); (try clear hk); (try clear hi)))
     go_ret2
     exact ⟨by first | rfl | (simp [errW_none, errW_some] <;> rfl) | (simp [*, errW_none, errW_some] <;> rfl), bA⟩
    ·rw [if_neg c18] at H
     exact absurd H (by simp)
end Go.Proofs.YtboommbclbjlnaaDoor.Fn
end
section
namespace Go.Proofs.YtboommbclbjlnaaDoor.Fn
open Go.RowKit Go.Proofs.YtboommbclbjlnaaDoorW.PrintWords Go.Proofs.YtboommbclbjlnaaDoorW.PrintLast Go.Proofs.YtboommbclbjlnaaDoorW.PrintMore Go.Proofs.YtboommbclbjlnaaDoor.Lf
open List (setIfInBounds_toArray set_cons_zero set_cons_succ)
attribute [local go_sem] max2_int min2_int max_two min_two max_three min_three max_four min_four   -- for this text's walks alone
set_option linter.unusedVariables false
set_option linter.unusedSimpArgs false
def r13_Add.f (k : Nat) (a0_0 : Int) (l0_1 : List (S46)) (a0_2 : ByteArray) (l1 : List (S26)) : Option (Int × (List (S46)) × ByteArray × Int) := (r13_bytes.f k (IntKind.u64.wrap (a0_0 + 1)) l1).bind fun bt265 => (if bt265.2 = 0 then (if a0_0 = 18446744073709551615 then (some (0, ([] : List (S46)), (⟨#[]⟩ : ByteArray), 14)) else ((some (([] : List (S46)) : List (S46))).bind fun y267 => (if y267.length + l0_1.length < 4398046511104 then ((some (y267 ++ l0_1 : List (S46))).bind fun y270 => ((some (([(⟨IntKind.u64.wrap (a0_0 + 1), l1⟩ : S46)] : List (S46)) : List (S46))).bind fun y273 => (if y270.length + y273.length < 4398046511104 then (if a0_2.size + bt265.1.size ≤ 9223372036854775807 then (some (IntKind.u64.wrap (a0_0 + 1), (y270 ++ y273), a0_2 ++ bt265.1, 0)) else (none)) else (none)))) else (none)))) else (some (0, ([] : List (S46)), (⟨#[]⟩ : ByteArray), bt265.2)))
theorem r13_Add.mono : ∀ a0 a1 a2 a3 k, LeO (r13_Add.f k a0 a1 a2 a3) (r13_Add.f (k + 1) a0 a1 a2 a3) := by
 intro a0 a1 a2 a3 k
 unfold r13_Add.f
 repeat' first
   | (with_reducible exact r13_bytes.mono _ _ _)
   | (with_reducible exact LeO.refl _)
   | (with_reducible exact LeO.none _)
   | (with_reducible refine LeO.ite ?_ ?_)
   | (with_reducible refine LeO.bind ?_ (fun _ => ?_))
   | exact r13_bytes.mono _ _ _
   | exact LeO.none _
   | refine LeO.ite ?_ ?_
   | refine LeO.bind ?_ (fun _ => ?_)
def r13_Add.T7 : Bool × List (List Nat × List Nat) := (true, [([], []), ([0], [0]), ([1], [1]), ([], []), ([], []), ([4], [4]), ([3, 5], [3, 5]), ([], []), ([7], [7]), ([6, 8, 6], [6, 8]), ([], []), ([10], [10]), ([], []), ([11, 12], [11, 12]), ([2, 9, 13], [2, 9, 13]), ([14, 9, 0, 1, 2, 3, 4, 5, 6, 7, 8, 9, 10, 11, 12, 13, 14], [14]), ([15, 0, 1, 2, 3, 4, 5, 6, 7, 8, 9, 10, 11, 12, 13, 14, 15], [])])
def r13_Add.B7 : List Nat := [0, 1, 3, 0, 0, 16, 56, 0, 128, 504, 0, 1024, 0, 7168, 16383, 32767, 65535]
theorem r13_Add.tab7 : rtab .any (opsOf Tryd.f61 7) = r13_Add.T7 := by kernel_rfl
theorem r13_Add.bits7 : waitsOk r13_Add.T7.2 r13_Add.B7 = true := by kernel_rfl
set_option maxHeartbeats 8000000 in
set_option maxRecDepth 100000 in
theorem r13_Add.calls (k : Nat) (a0_0 : Int) (P0_1_ : Nat → Prop) (A0_1 : Option Addr) (c0_1 : Nat) (l0_1 : List (S46)) (a0_2 : ByteArray) (P1_ : Nat → Prop) (A1 : Option Addr) (c1 : Nat) (l1 : List (S26)) (r1 : Int) (r2 : List (S46)) (r3 : ByteArray) (r4 : Int) (w : World) (hs0_1 : Kd.V k46 46 w w.heap.size (fun k_ => P0_1_ k_) (.slice A0_1 l0_1.length c0_1) l0_1) (hs1 : Kd.V k26 26 w w.heap.size (fun k_ => P1_ k_) (.slice A1 l1.length c1) l1) (h : r13_Add.f k a0_0 l0_1 a0_2 l1 = some (r1, r2, r3, r4)) :
  Calls Tryd.prog 61 #[.agg #[.int .u64 a0_0, .slice A0_1 l0_1.length c0_1, .string a0_2], .slice A1 l1.length c1] w fun e w' => ∃ v1_ : Value, e = .returned (.tuple #[.agg #[.int .u64 r1, v1_, .string r3], .int .i64 r4]) ∧ Kd.N k46 46 w' w.heap.size (fun k_ => ((P0_1_ k_ ∨ P1_ k_) ∨ w.heap.size ≤ k_)) v1_ r2 ∧ Below w.heap.size w w' := by
 have hu68 := Tryd.underlying68
 have hu46 := Tryd.underlying46
 have HO0_1 := Ax.mk (show Kd.V k46 46 w w.heap.size (fun k_ => ((P0_1_ k_ ∨ P1_ k_) ∨ w.heap.size ≤ k_)) (.slice A0_1 l0_1.length c0_1) l0_1 from Kd.V_mono hs0_1 (fun k_ hk => .inl (.inl hk)))
 have HO1 := Ax.mk (show Kd.V k26 26 w w.heap.size (fun k_ => ((P0_1_ k_ ∨ P1_ k_) ∨ w.heap.size ≤ k_)) (.slice A1 l1.length c1) l1 from Kd.V_mono hs1 (fun k_ hk => .inl (.inr hk)))
 have HB := Ax.mk (Below.refl w.heap.size w)
 have H : ((r13_bytes.f k (IntKind.u64.wrap (a0_0 + 1)) l1).bind fun bt265 => (if bt265.2 = 0 then (if a0_0 = 18446744073709551615 then (some (0, ([] : List (S46)), (⟨#[]⟩ : ByteArray), 14)) else ((some (([] : List (S46)) : List (S46))).bind fun y267 => (if y267.length + l0_1.length < 4398046511104 then ((some (y267 ++ l0_1 : List (S46))).bind fun y270 => ((some (([(⟨IntKind.u64.wrap (a0_0 + 1), l1⟩ : S46)] : List (S46)) : List (S46))).bind fun y273 => (if y270.length + y273.length < 4398046511104 then (if a0_2.size + bt265.1.size ≤ 9223372036854775807 then (some (IntKind.u64.wrap (a0_0 + 1), (y270 ++ y273), a0_2 ++ bt265.1, 0)) else (none)) else (none)))) else (none)))) else (some (0, ([] : List (S46)), (⟨#[]⟩ : ByteArray), bt265.2)))) = some (r1, r2, r3, r4) := h
 clear h
 replace H := Option.bind_eq_some_iff.mp H
 obtain ⟨⟨t265, t266⟩, A30, H⟩ := H
 replace H : (if t266 = 0 then (if a0_0 = 18446744073709551615 then (some (0, ([] : List (S46)), (⟨#[]⟩ : ByteArray), 14)) else ((some (([] : List (S46)) : List (S46))).bind fun y267 => (if y267.length + l0_1.length < 4398046511104 then ((some (y267 ++ l0_1 : List (S46))).bind fun y270 => ((some (([(⟨IntKind.u64.wrap (a0_0 + 1), l1⟩ : S46)] : List (S46)) : List (S46))).bind fun y273 => (if y270.length + y273.length < 4398046511104 then (if a0_2.size + t265.size ≤ 9223372036854775807 then (some (IntKind.u64.wrap (a0_0 + 1), (y270 ++ y273), a0_2 ++ t265, 0)) else (none)) else (none)))) else (none)))) else (some (0, ([] : List (S46)), (⟨#[]⟩ : ByteArray), t266))) = some (r1, r2, r3, r4) := H
 have A3 := Ax.mk A30
 clear A30
 by_cases c4 : t266 = 0
 ·rw [if_pos c4] at H
  have c4b0 : (t266 == 0) = true := beq_iff_eq.mpr c4
  have c4b1 : (t266 != 0) = false := bne_eq_false_iff_eq.mpr c4
  clear c4
  by_cases c5 : a0_0 = 18446744073709551615
  ·rw [if_pos c5] at H
   have c5b0 : (a0_0 == 18446744073709551615) = true := beq_iff_eq.mpr c5
   have c5b1 : (a0_0 != 18446744073709551615) = false := bne_eq_false_iff_eq.mpr c5
   clear c5
   simp only [Option.some.injEq, Prod.mk.injEq] at H
   obtain ⟨rfl, rfl, rfl, rfl⟩ := H
   go_enter Tryd.func61, Tryd.ntmps61
   go_wp2_with (first | ((with_reducible refine gate_dst (N := 2) rfl ?_); refine box_event ?hg (N := 2) ?hd (cs := #[.int .u64 a0_0, .slice A0_1 l0_1.length c0_1, .string a0_2]) (t := 68) ?hr ?_; (case hd => rfl); (case hg => rfl); (case hr => first | (go_simp; done) | (go_simp; rfl)); intro gb262 hg w6 hbox hb; have n0_ := Ax.mk (Kd.V_below (Kd.V_elderB (by exact Kd.V_to HO0_1.out) gb262 (Nat.le_of_eq hg.symm)) hb); have n1_ := Ax.mk (Kd.V_below (Kd.V_elderB (by exact Kd.V_to HO1.out) gb262 (Nat.le_of_eq hg.symm)) hb); have n2_ := Ax.mk (bP bA hb); have n3_ := Ax.mk (hbox); have n4_ := Ax.mk ((ge_new hg : w.heap.size ≤ gb262)); have n5_ := n4_; clear HO0_1; clear HO1; clear HB; have HO0_1 := n0_; have HO1 := n1_; have HB := n2_; have BK262 := n3_; have GW262 := n4_; have GE262 := n5_; clear n0_ n1_ n2_ n3_ n4_ n5_; clear hb hbox hg) | ((with_reducible refine gate_dst (N := 4) rfl ?_); refine box_event ?hg (N := 4) ?hd (cs := #[.int .u64 0, .slice none 0 0, .string (⟨#[]⟩ : ByteArray)]) (t := 68) ?hr ?_; (case hd => rfl); (case hg => rfl); (case hr => first | (go_simp; done) | (go_simp; rfl)); intro gb263 hg w7 hbox hb; have n0_ := Ax.mk (Kd.V_below (Kd.V_elderB (by exact Kd.V_to HO0_1.out) gb263 (Nat.le_of_eq hg.symm)) hb); have n1_ := Ax.mk (Kd.V_below (Kd.V_elderB (by exact Kd.V_to HO1.out) gb263 (Nat.le_of_eq hg.symm)) hb); have n2_ := Ax.mk (bB (bT BK262.out) hb); have n3_ := Ax.mk (bP bA hb); have n4_ := Ax.mk (hbox); have n5_ := Ax.mk ((ge_new hg : w.heap.size ≤ gb263)); have n6_ := n5_; have n7_ := Ax.mk ((ne_lt hg BK262.out : gb262 ≠ gb263)); have n8_ := Ax.mk ((ne_gt hg BK262.out : gb263 ≠ gb262)); clear HO0_1; clear HO1; clear BK262; clear HB; have HO0_1 := n0_; have HO1 := n1_; have BK262 := n2_; have HB := n3_; have BK263 := n4_; have GW263 := n5_; have GE263 := n6_; have NB262_263 := n7_; have NB263_262 := n8_; clear n0_ n1_ n2_ n3_ n4_ n5_ n6_ n7_ n8_; clear hb hbox hg; have hnb8 := NB262_263.out; have hnc8 := NB263_262.out; have hcz9_0 : w7.cell? ⟨gb262, 0, none⟩ = some (.int .u64 a0_0) := (bC BK262.out 0).trans rfl; have hcz9_1 : w7.cell? ⟨gb262, 1, none⟩ = some (.slice A0_1 l0_1.length c0_1) := (bC BK262.out 1).trans rfl; have hcz9_2 : w7.cell? ⟨gb262, 2, none⟩ = some (.string a0_2) := (bC BK262.out 2).trans rfl; have hfz9_0 := bF BK262.out 0; have hfz9_1 := bF BK262.out 1; have hfz9_2 := bF BK262.out 2) | ((with_reducible refine gate_dst (N := 6) rfl ?_); refine box_event ?hg (N := 6) ?hd (cs := #[.int .u64 0, .slice none 0 0]) (t := 46) ?hr ?_; (case hd => rfl); (case hg => rfl); (case hr => first | (go_simp; done) | (go_simp; rfl)); intro gb264 hg w10 hbox hb; have n0_ := Ax.mk (Kd.V_below (Kd.V_elderB (by exact Kd.V_to HO0_1.out) gb264 (Nat.le_of_eq hg.symm)) hb); have n1_ := Ax.mk (Kd.V_below (Kd.V_elderB (by exact Kd.V_to HO1.out) gb264 (Nat.le_of_eq hg.symm)) hb); have n2_ := Ax.mk (bB (bT BK262.out) hb); have n3_ := Ax.mk (bB (bT BK263.out) hb); have n4_ := Ax.mk (bP bA hb); have n5_ := Ax.mk (hbox); have n6_ := Ax.mk ((ge_new hg : w.heap.size ≤ gb264)); have n7_ := n6_; have n8_ := Ax.mk ((ne_lt hg BK262.out : gb262 ≠ gb264)); have n9_ := Ax.mk ((ne_gt hg BK262.out : gb264 ≠ gb262)); have n10_ := Ax.mk ((ne_lt hg BK263.out : gb263 ≠ gb264)); have n11_ := Ax.mk ((ne_gt hg BK263.out : gb264 ≠ gb263)); clear HO0_1; clear HO1; clear BK262; clear BK263; clear HB; have HO0_1 := n0_; have HO1 := n1_; have BK262 := n2_; have BK263 := n3_; have HB := n4_; have BK264 := n5_; have GW264 := n6_; have GE264 := n7_; have NB262_264 := n8_; have NB264_262 := n9_; have NB263_264 := n10_; have NB264_263 := n11_; clear n0_ n1_ n2_ n3_ n4_ n5_ n6_ n7_ n8_ n9_ n10_ n11_; clear hb hbox hg; have hnb11 := NB264_262.out; have hnc11 := NB262_264.out; have hnb12 := NB264_263.out; have hnc12 := NB263_264.out; have hcz13_0 : w10.cell? ⟨gb264, 0, none⟩ = some (.int .u64 0) := (bC BK264.out 0).trans rfl; have hcz13_1 : w10.cell? ⟨gb264, 1, none⟩ = some (.slice none 0 0) := (bC BK264.out 1).trans rfl; have hfz13_0 := bF BK264.out 0; have hfz13_1 := bF BK264.out 1) | ((with_reducible refine gate_callee (f := 65) rfl ?_); refine goesL_ (some 16) rfl rfl Tryd.func65 (by kernel_rfl) rfl #[.agg #[.int .u64 (IntKind.u64.wrap (a0_0 + 1)), .slice A1 l1.length c1]] rfl (by (try simp only [List.map_toArray, List.map_cons, List.map_nil]); first | done | rfl | (simp only [List.length_drop, List.length_take]; rfl) | (rw [wrap_sum2 (by assumption)]; rfl)) ?_; (with_reducible refine (r13_bytes.calls k (IntKind.u64.wrap (a0_0 + 1)) _ _ l1 t265 t266 _ ?side1 ?side2 A3.out).mono ?_); (case side1 => refine (Kd.V_reads' (e := 26) (base := w.heap.size) (ok := fun k_ => (((((P0_1_ k_ ∨ P1_ k_) ∨ w.heap.size ≤ k_) ∧ k_ ≠ gb262) ∧ k_ ≠ gb263) ∧ k_ ≠ gb264)) (n := l1.length) (c := c1) ?_).2.2; exact (by apply Kd.V_to; exact (Kd.V_mono (Kd.V_far (p := ⟨gb264, 1, none⟩) (Kd.V_far (p := ⟨gb264, 0, none⟩) (Kd.V_mono HO1.out (fun k_ hk => (⟨hk, hk.2⟩ : _ ∧ k_ ≠ gb264))) (fun _ hk => hk.2) (.int .u64 (IntKind.u64.wrap (a0_0 + 1)))) (fun _ hk => hk.2) (.slice A1 l1.length c1)) (fun _ h_ => h_.1)))); (case side2 => exact (Kd.V_reads' HO1.out).2.1); rintro e w14 ⟨rfl, hb⟩; refine ⟨_, rfl, ?_⟩; have n0_ := Ax.mk (Kd.V_below (by apply Kd.V_to; exact (Kd.V_mono (Kd.V_far (p := ⟨gb264, 1, none⟩) (Kd.V_far (p := ⟨gb264, 0, none⟩) (Kd.V_mono HO0_1.out (fun k_ hk => (⟨hk, hk.2⟩ : _ ∧ k_ ≠ gb264))) (fun _ hk => hk.2) (.int .u64 (IntKind.u64.wrap (a0_0 + 1)))) (fun _ hk => hk.2) (.slice A1 l1.length c1)) (fun _ h_ => h_.1))) hb); have n1_ := Ax.mk (Kd.V_below (by apply Kd.V_to; exact (Kd.V_mono (Kd.V_far (p := ⟨gb264, 1, none⟩) (Kd.V_far (p := ⟨gb264, 0, none⟩) (Kd.V_mono HO1.out (fun k_ hk => (⟨hk, hk.2⟩ : _ ∧ k_ ≠ gb264))) (fun _ hk => hk.2) (.int .u64 (IntKind.u64.wrap (a0_0 + 1)))) (fun _ hk => hk.2) (.slice A1 l1.length c1)) (fun _ h_ => h_.1))) hb); have n2_ := Ax.mk (bB (g := gb262) (o := .cells #[.int .u64 a0_0, .slice A0_1 l0_1.length c0_1, .string a0_2] 68 (0, 0)) (by refine bT ?_; refine bR ?_ NB262_264.out _; refine bT ?_; refine bR ?_ NB262_264.out _; exact bT BK262.out) hb); have n3_ := Ax.mk (bB (g := gb263) (o := .cells #[.int .u64 0, .slice none 0 0, .string (⟨#[]⟩ : ByteArray)] 68 (0, 0)) (by refine bT ?_; refine bR ?_ NB263_264.out _; refine bT ?_; refine bR ?_ NB263_264.out _; exact bT BK263.out) hb); have n4_ := Ax.mk (bB (g := gb264) (o := .cells #[.int .u64 (IntKind.u64.wrap (a0_0 + 1)), .slice A1 l1.length c1] 46 (0, 0)) (by refine bT ?_; refine bU (cs := #[.int .u64 (IntKind.u64.wrap (a0_0 + 1)), .slice none 0 0]) ?_ 1 _ rfl; refine bT ?_; refine bU (cs := #[.int .u64 0, .slice none 0 0]) ?_ 0 _ rfl; exact bT BK264.out) hb); have n5_ := Ax.mk (bP bA hb); clear HO0_1; clear HO1; clear BK262; clear BK263; clear BK264; clear HB; have HO0_1 := n0_; have HO1 := n1_; have BK262 := n2_; have BK263 := n3_; have BK264 := n4_; have HB := n5_; clear n0_ n1_ n2_ n3_ n4_ n5_; (try clear hb); (try clear hb2); (try clear hk); (try clear hi); have hcz15_0 : w14.cell? ⟨gb262, 0, none⟩ = some (.int .u64 a0_0) := (bC BK262.out 0).trans rfl; have hcz15_1 : w14.cell? ⟨gb262, 1, none⟩ = some (.slice A0_1 l0_1.length c0_1) := (bC BK262.out 1).trans rfl; have hcz15_2 : w14.cell? ⟨gb262, 2, none⟩ = some (.string a0_2) := (bC BK262.out 2).trans rfl; have hfz15_0 := bF BK262.out 0; have hfz15_1 := bF BK262.out 1; have hfz15_2 := bF BK262.out 2; have hcz16_0 : w14.cell? ⟨gb263, 0, none⟩ = some (.int .u64 0) := (bC BK263.out 0).trans rfl; have hcz16_1 : w14.cell? ⟨gb263, 1, none⟩ = some (.slice none 0 0) := (bC BK263.out 1).trans rfl; have hcz16_2 : w14.cell? ⟨gb263, 2, none⟩ = some (.string (⟨#[]⟩ : ByteArray)) := (bC BK263.out 2).trans rfl; have hfz16_0 := bF BK263.out 0; have hfz16_1 := bF BK263.out 1; have hfz16_2 := bF BK263.out 2))
   refine bodyPost_ret (results_ct rfl _ _ gb263 68 #[.int .u64 0, .slice none 0 0, .string (⟨#[]⟩ : ByteArray)] (0, 0) _ rfl (by refine bT ?_; refine bU (cs := #[.int .u64 0, .slice none 0 0, .string (⟨#[]⟩ : ByteArray)]) ?_ 2 _ rfl; refine bT ?_; refine bU (cs := #[.int .u64 0, .slice none 0 0, .string (⟨#[]⟩ : ByteArray)]) ?_ 1 _ rfl; refine bT ?_; refine bU (cs := #[.int .u64 0, .slice none 0 0, .string (⟨#[]⟩ : ByteArray)]) ?_ 0 _ rfl; exact bT BK263.out) Tryd.underlying68 rfl (by kernel_rfl)) rfl ?_
   exact ⟨_, by first | rfl | (simp [errW_none, errW_some] <;> rfl) | (simp [*, errW_none, errW_some] <;> rfl), by first | exact Kd.S_nil _ _ _ _ _ | exact Kd.N_nil _ _ _ _ _ | exact Kd.V_nil _ _ _ _ _ | exact Kd.Q_nil _ _ _ _ _ | exact Kd.R_nil _ _ _ _ _, bA⟩
  ·rw [if_neg c5] at H
   have c5b0 : (a0_0 == 18446744073709551615) = false := beq_eq_false_iff_ne.mpr c5
   have c5b1 : (a0_0 != 18446744073709551615) = true := bne_iff_ne.mpr c5
   obtain ⟨y267, hy267⟩ : ∃ y_ : List (S46), y_ = (([] : List (S46))) := ⟨_, rfl⟩
   replace H : (if y267.length + l0_1.length < 4398046511104 then ((some (y267 ++ l0_1 : List (S46))).bind fun y270 => ((some (([(⟨IntKind.u64.wrap (a0_0 + 1), l1⟩ : S46)] : List (S46)) : List (S46))).bind fun y273 => (if y270.length + y273.length < 4398046511104 then (if a0_2.size + t265.size ≤ 9223372036854775807 then (some (IntKind.u64.wrap (a0_0 + 1), (y270 ++ y273), a0_2 ++ t265, 0)) else (none)) else (none)))) else (none)) = some (r1, r2, r3, r4) := by first | (rw [hy267]; with_reducible exact H) | (have H2_ := (Option.bind_some _ _).symm.trans H; rw [hy267]; with_reducible exact H2_) | (have H2_ := (Option.bind_some _ _).symm.trans H; with_reducible exact H2_) | with_reducible exact H | (rw [hy267]; exact H) | exact H
   have Ny267 := Ax.mk hy267
   clear hy267
   by_cases c17 : y267.length + l0_1.length < 4398046511104
   ·rw [if_pos c17] at H
    have LMc17 := Ax.mk c17
    clear c17
    obtain ⟨y270, hy270⟩ : ∃ y_ : List (S46), y_ = (y267 ++ l0_1) := ⟨_, rfl⟩
    replace H : ((some (([(⟨IntKind.u64.wrap (a0_0 + 1), l1⟩ : S46)] : List (S46)) : List (S46))).bind fun y273 => (if y270.length + y273.length < 4398046511104 then (if a0_2.size + t265.size ≤ 9223372036854775807 then (some (IntKind.u64.wrap (a0_0 + 1), (y270 ++ y273), a0_2 ++ t265, 0)) else (none)) else (none))) = some (r1, r2, r3, r4) := by first | (rw [hy270]; with_reducible exact H) | (have H2_ := (Option.bind_some _ _).symm.trans H; rw [hy270]; with_reducible exact H2_) | (have H2_ := (Option.bind_some _ _).symm.trans H; with_reducible exact H2_) | with_reducible exact H | (rw [hy270]; exact H) | exact H
    have Ny270 := Ax.mk hy270
    clear hy270
    obtain ⟨y273, hy273⟩ : ∃ y_ : List (S46), y_ = (([(⟨IntKind.u64.wrap (a0_0 + 1), l1⟩ : S46)] : List (S46))) := ⟨_, rfl⟩
    replace H : (if y270.length + y273.length < 4398046511104 then (if a0_2.size + t265.size ≤ 9223372036854775807 then (some (IntKind.u64.wrap (a0_0 + 1), (y270 ++ y273), a0_2 ++ t265, 0)) else (none)) else (none)) = some (r1, r2, r3, r4) := by first | (rw [hy273]; with_reducible exact H) | (have H2_ := (Option.bind_some _ _).symm.trans H; rw [hy273]; with_reducible exact H2_) | (have H2_ := (Option.bind_some _ _).symm.trans H; with_reducible exact H2_) | with_reducible exact H | (rw [hy273]; exact H) | exact H
    have Ny273 := Ax.mk hy273
    clear hy273
    by_cases c18 : y270.length + y273.length < 4398046511104
    ·rw [if_pos c18] at H
     have LMc18 := Ax.mk c18
     clear c18
     obtain ⟨y276, hy276⟩ : ∃ y_ : List (S46), y_ = (y270 ++ y273) := ⟨_, rfl⟩
     replace H : (if a0_2.size + t265.size ≤ 9223372036854775807 then (some (IntKind.u64.wrap (a0_0 + 1), y276, a0_2 ++ t265, 0)) else (none)) = some (r1, r2, r3, r4) := by first | (rw [hy276]; with_reducible exact H) | (have H2_ := (Option.bind_some _ _).symm.trans H; rw [hy276]; with_reducible exact H2_) | (have H2_ := (Option.bind_some _ _).symm.trans H; with_reducible exact H2_) | with_reducible exact H | (rw [hy276]; exact H) | exact H
     have Ny276 := Ax.mk hy276
     clear hy276
     by_cases c19 : a0_2.size + t265.size ≤ 9223372036854775807
     ·rw [if_pos c19] at H
      have c19b0 := eq_true c19
      have c19b1 : decide (a0_2.size + t265.size ≤ 9223372036854775807) = true := decide_eq_true c19
      try have c19b2 : (9223372036854775807 < a0_2.size + t265.size) = False := eq_false (Nat.not_lt.2 c19)
      simp only [Option.some.injEq, Prod.mk.injEq] at H
      obtain ⟨rfl, rfl, rfl, rfl⟩ := H
      go_enter Tryd.func61, Tryd.ntmps61
      try go_wp2_with (first | ((with_reducible refine gate_dst (N := 2) rfl ?_); refine box_event ?hg (N := 2) ?hd (cs := #[.int .u64 a0_0, .slice A0_1 l0_1.length c0_1, .string a0_2]) (t := 68) ?hr ?_; (case hd => rfl); (case hg => rfl); (case hr => first | (go_simp; done) | (go_simp; rfl)); intro gb262 hg w20 hbox hb; have n0_ := Ax.mk (Kd.V_below (Kd.V_elderB (by exact Kd.V_to HO0_1.out) gb262 (Nat.le_of_eq hg.symm)) hb); have n1_ := Ax.mk (Kd.V_below (Kd.V_elderB (by exact Kd.V_to HO1.out) gb262 (Nat.le_of_eq hg.symm)) hb); have n2_ := Ax.mk (bP bA hb); have n3_ := Ax.mk (hbox); have n4_ := Ax.mk ((ge_new hg : w.heap.size ≤ gb262)); have n5_ := n4_; clear HO0_1; clear HO1; clear HB; have HO0_1 := n0_; have HO1 := n1_; have HB := n2_; have BK262 := n3_; have GW262 := n4_; have GE262 := n5_; clear n0_ n1_ n2_ n3_ n4_ n5_; clear hb hbox hg) | ((with_reducible refine gate_dst (N := 4) rfl ?_); refine box_event ?hg (N := 4) ?hd (cs := #[.int .u64 0, .slice none 0 0, .string (⟨#[]⟩ : ByteArray)]) (t := 68) ?hr ?_; (case hd => rfl); (case hg => rfl); (case hr => first | (go_simp; done) | (go_simp; rfl)); intro gb263 hg w21 hbox hb; have n0_ := Ax.mk (Kd.V_below (Kd.V_elderB (by exact Kd.V_to HO0_1.out) gb263 (Nat.le_of_eq hg.symm)) hb); have n1_ := Ax.mk (Kd.V_below (Kd.V_elderB (by exact Kd.V_to HO1.out) gb263 (Nat.le_of_eq hg.symm)) hb); have n2_ := Ax.mk (bB (bT BK262.out) hb); have n3_ := Ax.mk (bP bA hb); have n4_ := Ax.mk (hbox); have n5_ := Ax.mk ((ge_new hg : w.heap.size ≤ gb263)); have n6_ := n5_; have n7_ := Ax.mk ((ne_lt hg BK262.out : gb262 ≠ gb263)); have n8_ := Ax.mk ((ne_gt hg BK262.out : gb263 ≠ gb262)); clear HO0_1; clear HO1; clear BK262; clear HB; have HO0_1 := n0_; have HO1 := n1_; have BK262 := n2_; have HB := n3_; have BK263 := n4_; have GW263 := n5_; have GE263 := n6_; have NB262_263 := n7_; have NB263_262 := n8_; clear n0_ n1_ n2_ n3_ n4_ n5_ n6_ n7_ n8_; clear hb hbox hg; have hnb22 := NB262_263.out; have hnc22 := NB263_262.out; have hcz23_0 : w21.cell? ⟨gb262, 0, none⟩ = some (.int .u64 a0_0) := (bC BK262.out 0).trans rfl; have hcz23_1 : w21.cell? ⟨gb262, 1, none⟩ = some (.slice A0_1 l0_1.length c0_1) := (bC BK262.out 1).trans rfl; have hcz23_2 : w21.cell? ⟨gb262, 2, none⟩ = some (.string a0_2) := (bC BK262.out 2).trans rfl; have hfz23_0 := bF BK262.out 0; have hfz23_1 := bF BK262.out 1; have hfz23_2 := bF BK262.out 2) | ((with_reducible refine gate_dst (N := 6) rfl ?_); refine box_event ?hg (N := 6) ?hd (cs := #[.int .u64 0, .slice none 0 0]) (t := 46) ?hr ?_; (case hd => rfl); (case hg => rfl); (case hr => first | (go_simp; done) | (go_simp; rfl)); intro gb264 hg w24 hbox hb; have n0_ := Ax.mk (Kd.V_below (Kd.V_elderB (by exact Kd.V_to HO0_1.out) gb264 (Nat.le_of_eq hg.symm)) hb); have n1_ := Ax.mk (Kd.V_below (Kd.V_elderB (by exact Kd.V_to HO1.out) gb264 (Nat.le_of_eq hg.symm)) hb); have n2_ := Ax.mk (bB (bT BK262.out) hb); have n3_ := Ax.mk (bB (bT BK263.out) hb); have n4_ := Ax.mk (bP bA hb); have n5_ := Ax.mk (hbox); have n6_ := Ax.mk ((ge_new hg : w.heap.size ≤ gb264)); have n7_ := n6_; have n8_ := Ax.mk ((ne_lt hg BK262.out : gb262 ≠ gb264)); have n9_ := Ax.mk ((ne_gt hg BK262.out : gb264 ≠ gb262)); have n10_ := Ax.mk ((ne_lt hg BK263.out : gb263 ≠ gb264)); have n11_ := Ax.mk ((ne_gt hg BK263.out : gb264 ≠ gb263)); clear HO0_1; clear HO1; clear BK262; clear BK263; clear HB; have HO0_1 := n0_; have HO1 := n1_; have BK262 := n2_; have BK263 := n3_; have HB := n4_; have BK264 := n5_; have GW264 := n6_; have GE264 := n7_; have NB262_264 := n8_; have NB264_262 := n9_; have NB263_264 := n10_; have NB264_263 := n11_; clear n0_ n1_ n2_ n3_ n4_ n5_ n6_ n7_ n8_ n9_ n10_ n11_; clear hb hbox hg; have hnb25 := NB264_262.out; have hnc25 := NB262_264.out; have hnb26 := NB264_263.out; have hnc26 := NB263_264.out; have hcz27_0 : w24.cell? ⟨gb264, 0, none⟩ = some (.int .u64 0) := (bC BK264.out 0).trans rfl; have hcz27_1 : w24.cell? ⟨gb264, 1, none⟩ = some (.slice none 0 0) := (bC BK264.out 1).trans rfl; have hfz27_0 := bF BK264.out 0; have hfz27_1 := bF BK264.out 1) | ((with_reducible refine gate_callee (f := 65) rfl ?_); refine goesL_ (some 16) rfl rfl Tryd.func65 (by kernel_rfl) rfl #[.agg #[.int .u64 (IntKind.u64.wrap (a0_0 + 1)), .slice A1 l1.length c1]] rfl (by (try simp only [List.map_toArray, List.map_cons, List.map_nil]); first | done | rfl | (simp only [List.length_drop, List.length_take]; rfl) | (rw [wrap_sum2 (by assumption)]; rfl)) ?_; (with_reducible refine (r13_bytes.calls k (IntKind.u64.wrap (a0_0 + 1)) _ _ l1 t265 t266 _ ?side1 ?side2 A3.out).mono ?_); (case side1 => refine (Kd.V_reads' (e := 26) (base := w.heap.size) (ok := fun k_ => (((((P0_1_ k_ ∨ P1_ k_) ∨ w.heap.size ≤ k_) ∧ k_ ≠ gb262) ∧ k_ ≠ gb263) ∧ k_ ≠ gb264)) (n := l1.length) (c := c1) ?_).2.2; exact (by apply Kd.V_to; exact (Kd.V_mono (Kd.V_far (p := ⟨gb264, 1, none⟩) (Kd.V_far (p := ⟨gb264, 0, none⟩) (Kd.V_mono HO1.out (fun k_ hk => (⟨hk, hk.2⟩ : _ ∧ k_ ≠ gb264))) (fun _ hk => hk.2) (.int .u64 (IntKind.u64.wrap (a0_0 + 1)))) (fun _ hk => hk.2) (.slice A1 l1.length c1)) (fun _ h_ => h_.1)))); (case side2 => exact (Kd.V_reads' HO1.out).2.1); rintro e w28 ⟨rfl, hb⟩; refine ⟨_, rfl, ?_⟩; have n0_ := Ax.mk (Kd.V_below (by apply Kd.V_to; exact (Kd.V_mono (Kd.V_far (p := ⟨gb264, 1, none⟩) (Kd.V_far (p := ⟨gb264, 0, none⟩) (Kd.V_mono HO0_1.out (fun k_ hk => (⟨hk, hk.2⟩ : _ ∧ k_ ≠ gb264))) (fun _ hk => hk.2) (.int .u64 (IntKind.u64.wrap (a0_0 + 1)))) (fun _ hk => hk.2) (.slice A1 l1.length c1)) (fun _ h_ => h_.1))) hb); have n1_ := Ax.mk (Kd.V_below (by apply Kd.V_to; exact (Kd.V_mono (Kd.V_far (p := ⟨gb264, 1, none⟩) (Kd.V_far (p := ⟨gb264, 0, none⟩) (Kd.V_mono HO1.out (fun k_ hk => (⟨hk, hk.2⟩ : _ ∧ k_ ≠ gb264))) (fun _ hk => hk.2) (.int .u64 (IntKind.u64.wrap (a0_0 + 1)))) (fun _ hk => hk.2) (.slice A1 l1.length c1)) (fun _ h_ => h_.1))) hb); have n2_ := Ax.mk (bB (g := gb262) (o := .cells #[.int .u64 a0_0, .slice A0_1 l0_1.length c0_1, .string a0_2] 68 (0, 0)) (by refine bT ?_; refine bR ?_ NB262_264.out _; refine bT ?_; refine bR ?_ NB262_264.out _; exact bT BK262.out) hb); have n3_ := Ax.mk (bB (g := gb263) (o := .cells #[.int .u64 0, .slice none 0 0, .string (⟨#[]⟩ : ByteArray)] 68 (0, 0)) (by refine bT ?_; refine bR ?_ NB263_264.out _; refine bT ?_; refine bR ?_ NB263_264.out _; exact bT BK263.out) hb); have n4_ := Ax.mk (bB (g := gb264) (o := .cells #[.int .u64 (IntKind.u64.wrap (a0_0 + 1)), .slice A1 l1.length c1] 46 (0, 0)) (by refine bT ?_; refine bU (cs := #[.int .u64 (IntKind.u64.wrap (a0_0 + 1)), .slice none 0 0]) ?_ 1 _ rfl; refine bT ?_; refine bU (cs := #[.int .u64 0, .slice none 0 0]) ?_ 0 _ rfl; exact bT BK264.out) hb); have n5_ := Ax.mk (bP bA hb); clear HO0_1; clear HO1; clear BK262; clear BK263; clear BK264; clear HB; have HO0_1 := n0_; have HO1 := n1_; have BK262 := n2_; have BK263 := n3_; have BK264 := n4_; have HB := n5_; clear n0_ n1_ n2_ n3_ n4_ n5_; (try clear hb); (try clear hb2); (try clear hk); (try clear hi); have hcz29_0 : w28.cell? ⟨gb262, 0, none⟩ = some (.int .u64 a0_0) := (bC BK262.out 0).trans rfl; have hcz29_1 : w28.cell? ⟨gb262, 1, none⟩ = some (.slice A0_1 l0_1.length c0_1) := (bC BK262.out 1).trans rfl; have hcz29_2 : w28.cell? ⟨gb262, 2, none⟩ = some (.string a0_2) := (bC BK262.out 2).trans rfl; have hfz29_0 := bF BK262.out 0; have hfz29_1 := bF BK262.out 1; have hfz29_2 := bF BK262.out 2))
      have n0_ := Ax.mk (Kd.V_drew HO0_1.out)
      have n1_ := Ax.mk (Kd.V_drew HO1.out)
      have n2_ := Ax.mk (blk_drew BK262.out)
      have n3_ := Ax.mk (blk_drew BK263.out)
      have n4_ := Ax.mk (blk_drew BK264.out)
      have n5_ := Ax.mk (below_drew1 HB.out)
      clear HO0_1
      clear HO1
      clear BK262
      clear BK263
      clear BK264
      clear HB
      have HO0_1 := n0_
      have HO1 := n1_
      have BK262 := n2_
      have BK263 := n3_
      have BK264 := n4_
      have HB := n5_
      clear n0_ n1_ n2_ n3_ n4_ n5_
      refine start_ (n := 17) (S := fun w' => w'.cell? ⟨gb262, 0, none⟩ = some (.int .u64 a0_0) ∧ w'.cell? ⟨gb262, 1, none⟩ = some (.slice A0_1 l0_1.length c0_1) ∧ w'.cell? ⟨gb262, 2, none⟩ = some (.string a0_2) ∧ w'.cell? ⟨gb264, 0, none⟩ = some (.int .u64 (IntKind.u64.wrap (a0_0 + 1))) ∧ w'.cell? ⟨gb264, 1, none⟩ = some (.slice A1 l1.length c1)) (ds := []) #[false, false, false, false, false, false, false, false, false, false, false, false, false, false, false, false, false] (by kernel_rfl) rfl rfl ⟨(bC BK262.out 0).trans rfl, (bC BK262.out 1).trans rfl, (bC BK262.out 2).trans rfl, (bC BK264.out 0).trans rfl, (bC BK264.out 1).trans rfl⟩ (fun hHeld => ?_); refine with_tabW r13_Add.tab7 r13_Add.bits7 (fun HT_ HW_ => ?_)
      generalize w28.drew = w30 at HO0_1 HO1 BK262 BK263 BK264 HB hHeld ⊢
      refine pure_ (i := 0) (N := some 27) (v := ?_) (a' := ?_) #[true, false, false, false, false, false, false, false, false, false, false, false, false, false, false, false, false] rfl rfl (any_of HT_.out (by kernel_rfl)) (fun _ _ _ h => h) (Or.inl ⟨by rfl, ?_⟩) ?_ ?_
      rotate_left
      ·intro w'
       go_simp
       with_reducible rfl
      rotate_left
      ·simp only [Act.put, setIfInBounds_toArray, set_cons_zero, set_cons_succ, i64_w, i32_w]
       rfl
      refine pure_ (i := 4) (N := some 31) (v := ?_) (a' := ?_) #[true, false, false, false, true, false, false, false, false, false, false, false, false, false, false, false, false] rfl rfl (any_of HT_.out (by kernel_rfl)) (fun _ _ _ h => h) (Or.inl ⟨by rfl, ?_⟩) ?_ ?_
      rotate_left
      ·intro w'
       go_simp
       with_reducible rfl
      rotate_left
      ·simp only [Act.put, setIfInBounds_toArray, set_cons_zero, set_cons_succ, i64_w, i32_w]
       rfl
      refine pure_ (i := 10) (N := some 37) (v := ?_) (a' := ?_) #[true, false, false, false, true, false, false, false, false, false, true, false, false, false, false, false, false] rfl rfl (any_of HT_.out (by kernel_rfl)) (fun _ _ _ h => h) (Or.inl ⟨by rfl, ?_⟩) ?_ ?_
      rotate_left
      ·intro w'
       go_simp
       with_reducible rfl
      rotate_left
      ·simp only [Act.put, setIfInBounds_toArray, set_cons_zero, set_cons_succ, i64_w, i32_w]
       rfl
      refine pure_ (i := 12) (N := some 39) (v := ?_) (a' := ?_) #[true, false, false, false, true, false, false, false, false, false, true, false, true, false, false, false, false] rfl rfl (any_of HT_.out (by kernel_rfl)) (fun _ _ _ h => h) (Or.inl ⟨by rfl, ?_⟩) ?_ ?_
      rotate_left
      ·intro w'
       go_simp
       with_reducible rfl
      rotate_left
      ·simp only [Act.put, setIfInBounds_toArray, set_cons_zero, set_cons_succ, i64_w, i32_w]
       rfl
      refine take_ (i := 1) (N := some 28) (v := ?_) (a' := ?_) #[true, true, false, false, true, false, false, false, false, false, true, false, true, false, false, false, false] rfl rfl (take_ofW HT_.out HW_.out (by kernel_rfl)) (fun _ _ _ h => h) (Or.inl ⟨by rfl, ?_⟩) hHeld ?_ ?_
      rotate_left
      ·rintro w' ⟨s0, s1, s2, s3, s4⟩
       go_simp
       with_reducible rfl
      rotate_left
      ·simp only [Act.put, setIfInBounds_toArray, set_cons_zero, set_cons_succ, i64_w, i32_w]
       rfl
      refine pure_ (i := 2) (N := some 29) (v := ?_) (a' := ?_) #[true, true, true, false, true, false, false, false, false, false, true, false, true, false, false, false, false] rfl rfl (any_of HT_.out (by kernel_rfl)) (fun _ _ _ h => h) (Or.inl ⟨by rfl, ?_⟩) ?_ ?_
      rotate_left
      ·intro w'
       go_simp
       with_reducible rfl
      rotate_left
      ·simp only [Act.put, setIfInBounds_toArray, set_cons_zero, set_cons_succ, i64_w, i32_w]
       rfl
      refine take_ (i := 5) (N := some 32) (v := ?_) (a' := ?_) #[true, true, true, false, true, true, false, false, false, false, true, false, true, false, false, false, false] rfl rfl (take_ofW HT_.out HW_.out (by kernel_rfl)) (fun _ _ _ h => h) (Or.inl ⟨by rfl, ?_⟩) hHeld ?_ ?_
      rotate_left
      ·rintro w' ⟨s0, s1, s2, s3, s4⟩
       go_simp
       with_reducible rfl
      rotate_left
      ·simp only [Act.put, setIfInBounds_toArray, set_cons_zero, set_cons_succ, i64_w, i32_w]
       rfl
      refine take_ (i := 7) (N := some 34) (v := ?_) (a' := ?_) #[true, true, true, false, true, true, false, true, false, false, true, false, true, false, false, false, false] rfl rfl (take_ofW HT_.out HW_.out (by kernel_rfl)) (fun _ _ _ h => h) (Or.inl ⟨by rfl, ?_⟩) hHeld ?_ ?_
      rotate_left
      ·rintro w' ⟨s0, s1, s2, s3, s4⟩
       go_simp
       with_reducible rfl
      rotate_left
      ·simp only [Act.put, setIfInBounds_toArray, set_cons_zero, set_cons_succ, i64_w, i32_w]
       rfl
      refine take_ (i := 11) (N := some 38) (v := ?_) (a' := ?_) #[true, true, true, false, true, true, false, true, false, false, true, true, true, false, false, false, false] rfl rfl (take_ofW HT_.out HW_.out (by kernel_rfl)) (fun _ _ _ h => h) (Or.inl ⟨by rfl, ?_⟩) hHeld ?_ ?_
      rotate_left
      ·rintro w' ⟨s0, s1, s2, s3, s4⟩
       go_simp
       with_reducible rfl
      rotate_left
      ·simp only [Act.put, setIfInBounds_toArray, set_cons_zero, set_cons_succ, i64_w, i32_w]
       rfl
      refine pure_ (i := 13) (N := some 40) (v := ?_) (a' := ?_) #[true, true, true, false, true, true, false, true, false, false, true, true, true, true, false, false, false] rfl rfl (any_of HT_.out (by kernel_rfl)) (fun _ _ _ h => h) (Or.inl ⟨by rfl, ?_⟩) ?_ ?_
      rotate_left
      ·intro w'
       go_simp
       with_reducible rfl
      rotate_left
      ·simp only [Act.put, setIfInBounds_toArray, set_cons_zero, set_cons_succ, i64_w, i32_w]
       rfl
      refine join_ (σ := Value × Value × Value) 4 #[true, true, true, true, true, true, true, true, true, false, true, true, true, true, false, false, false] (fun s_ => [(30, s_.1), (33, s_.2.1), (35, s_.2.2)]) (fun s_ w' => (w'.cell? ⟨gb262, 0, none⟩ = some (.int .u64 a0_0) ∧ w'.cell? ⟨gb262, 1, none⟩ = some (.slice A0_1 l0_1.length c0_1) ∧ w'.cell? ⟨gb262, 2, none⟩ = some (.string a0_2) ∧ w'.cell? ⟨gb264, 0, none⟩ = some (.int .u64 (IntKind.u64.wrap (a0_0 + 1))) ∧ w'.cell? ⟨gb264, 1, none⟩ = some (.slice A1 l1.length c1)) ∧ (Kd.V k46 46 w' w.heap.size (fun k_ => ((P0_1_ k_ ∨ P1_ k_) ∨ w.heap.size ≤ k_) ∧ some k_ ≠ (s_.2.1 : Value).ownBlock ∧ some k_ ≠ (s_.2.2 : Value).ownBlock ∧ k_ ≠ gb262 ∧ k_ ≠ gb263 ∧ k_ ≠ gb264) (.slice A0_1 l0_1.length c0_1) l0_1) ∧ (Kd.V k26 26 w' w.heap.size (fun k_ => ((P0_1_ k_ ∨ P1_ k_) ∨ w.heap.size ≤ k_) ∧ some k_ ≠ (s_.2.1 : Value).ownBlock ∧ some k_ ≠ (s_.2.2 : Value).ownBlock ∧ k_ ≠ gb262 ∧ k_ ≠ gb263 ∧ k_ ≠ gb264) (.slice A1 l1.length c1) l1) ∧ (Kd.N k46 46 w' w.heap.size (fun k_ => ((P0_1_ k_ ∨ P1_ k_) ∨ w.heap.size ≤ k_) ∧ some k_ ≠ (s_.2.2 : Value).ownBlock ∧ k_ ≠ gb262 ∧ k_ ≠ gb263 ∧ k_ ≠ gb264) s_.2.1 y270) ∧ (Kd.N k46 46 w' w.heap.size (fun k_ => ((P0_1_ k_ ∨ P1_ k_) ∨ w.heap.size ≤ k_) ∧ some k_ ≠ (s_.2.1 : Value).ownBlock ∧ k_ ≠ gb262 ∧ k_ ≠ gb263 ∧ k_ ≠ gb264) s_.2.2 y273) ∧ (w'.heap[gb262]? = some (.cells #[.int .u64 a0_0, .slice A0_1 l0_1.length c0_1, .string a0_2] 68 (0, 0))) ∧ (w'.heap[gb263]? = some (.cells #[.int .u64 0, .slice none 0 0, .string (⟨#[]⟩ : ByteArray)] 68 (0, 0))) ∧ (w'.heap[gb264]? = some (.cells #[.int .u64 (IntKind.u64.wrap (a0_0 + 1)), .slice A1 l1.length c1] 46 (0, 0))) ∧ (Below w.heap.size w w')) ?_ ?_
      rotate_left
      ·intro hCont
       refine two_ (i := 3) (j := 8) (Ni := some 30) (Nj := some 35) #[true, true, true, true, true, true, false, true, false, false, true, true, true, true, false, false, false] #[true, true, true, false, true, true, false, true, true, false, true, true, true, true, false, false, false] rfl rfl rfl rfl (two_of HT_.out (by kernel_rfl)) (by decide) (by decide) (fun K hK => ?_) (fun K hK => ?_)
       ·skip
        refine Kd.N_lit_step k46 _ 46 ?hg (N' := 30) ?hd (xs := ([] : List (S46))) (inner := []) (ok := (fun k_ => ((P0_1_ k_ ∨ P1_ k_) ∨ w.heap.size ≤ k_) ∧ k_ ≠ gb262 ∧ k_ ≠ gb263 ∧ k_ ≠ gb264)) (okp := (fun k_ => ((P0_1_ k_ ∨ P1_ k_) ∨ w.heap.size ≤ k_) ∧ k_ ≠ gb262 ∧ k_ ≠ gb263 ∧ k_ ≠ gb264)) ?hr ?hp (fun _ hk => hk) ((show ∀ k_, w30.heap.size ≤ k_ → (fun k_ => ((P0_1_ k_ ∨ P1_ k_) ∨ w.heap.size ≤ k_) ∧ k_ ≠ gb262 ∧ k_ ≠ gb263 ∧ k_ ≠ gb264) k_ from fun k_ hk => ⟨(.inr (Nat.le_trans (bS bA) hk)), Kd.freshB (g := gb262) (o := .cells #[.int .u64 a0_0, .slice A0_1 l0_1.length c0_1, .string a0_2] 68 (0, 0)) (bT BK262.out) k_ hk, Kd.freshB (g := gb263) (o := .cells #[.int .u64 0, .slice none 0 0, .string (⟨#[]⟩ : ByteArray)] 68 (0, 0)) (bT BK263.out) k_ hk, Kd.freshB (g := gb264) (o := .cells #[.int .u64 (IntKind.u64.wrap (a0_0 + 1)), .slice A1 l1.length c1] 46 (0, 0)) (bT BK264.out) k_ hk⟩) _ (Nat.le_refl _)) (Below.refl _ _) (Nat.le_refl _) (by simp) ?_; (case hd => rfl); (case hg => rfl); (case hr => first | (go_simp; done) | (go_simp; rfl)); (case hp => exact (Reps.none _ _))
        intro v268 w31 ho32 hb hg_ hnew_
        clear hg_ hnew_
        (first | rw [← Ny267.out] at ho32 | (simp only [Int.reduceToNat] at ho32; rw [← Ny267.out] at ho32))
        have n0_ := Ax.mk (Kd.V_elder' (by exact Kd.V_to HO0_1.out) (Kd.N_base ho32) hb)
        have n1_ := Ax.mk (Kd.V_elder' (by exact Kd.V_to HO1.out) (Kd.N_base ho32) hb)
        have n2_ := Ax.mk (Kd.N_lower ho32 (bS bA))
        have n3_ := Ax.mk (bB (bT BK262.out) hb)
        have n4_ := Ax.mk (bB (bT BK263.out) hb)
        have n5_ := Ax.mk (bB (bT BK264.out) hb)
        have n6_ := Ax.mk (bP bA hb)
        clear HO0_1
        clear HO1
        clear BK262
        clear BK263
        clear BK264
        clear HB
        have HO0_1 := n0_
        have HO1 := n1_
        have HO269 := n2_
        have BK262 := n3_
        have BK263 := n4_
        have BK264 := n5_
        have HB := n6_
        clear n0_ n1_ n2_ n3_ n4_ n5_ n6_
        clear hb ho32
        refine hK.out _ _ ⟨(bC BK262.out 0).trans rfl, (bC BK262.out 1).trans rfl, (bC BK262.out 2).trans rfl, (bC BK264.out 0).trans rfl, (bC BK264.out 1).trans rfl⟩ (fun hHeld => ?_)
        clear hK K
        refine norm_ (a' := ?_) ?_ ?_
        rotate_left
        ·show Act.put _ (some 30) _ = _
         simp only [Act.put, setIfInBounds_toArray, set_cons_zero, set_cons_succ, i64_w, i32_w]
         rfl
        refine two_ (i := 6) (j := 8) (Ni := some 33) (Nj := some 35) #[true, true, true, true, true, true, true, true, false, false, true, true, true, true, false, false, false] #[true, true, true, true, true, true, false, true, true, false, true, true, true, true, false, false, false] rfl rfl rfl rfl (two_of HT_.out (by kernel_rfl)) (by decide) (by decide) (fun K hK => ?_) (fun K hK => ?_)
        ·skip
         refine Kd.N_append_rows_step k46 (w0 := w) w.heap.size (by rfl) (.tmp 30) (.tmp 32) 40 46 (.agg #[(.int .u64 0), (.slice none 0 0)]) 32 rfl Tryd.underlying40 info46 rfl (by decide) (by omega) v268 y267 l0_1 _ _ _ (fun k_ => ((P0_1_ k_ ∨ P1_ k_) ∨ w.heap.size ≤ k_) ∧ k_ ≠ gb262 ∧ k_ ≠ gb263 ∧ k_ ≠ gb264) (fun k_ => ((fun k_ => ((P0_1_ k_ ∨ P1_ k_) ∨ w.heap.size ≤ k_) ∧ k_ ≠ gb262 ∧ k_ ≠ gb263 ∧ k_ ≠ gb264)) k_ ∧ some k_ ≠ (v268 : Value).ownBlock) rfl rfl ?aO ?aR (fun _ hk => hk) ?aF ?aB ?aS ?aL ?_
         (case aR => exact (by skip; exact Kd.V_F (Kd.V_mono (ok' := (fun k_ => ((fun k_ => ((P0_1_ k_ ∨ P1_ k_) ∨ w.heap.size ≤ k_) ∧ k_ ≠ gb262 ∧ k_ ≠ gb263 ∧ k_ ≠ gb264)) k_ ∧ some k_ ≠ (v268 : Value).ownBlock)) (HO0_1.out) (fun k_ hk => ⟨⟨hk.1.1.1.1, ⟨hk.1.1.1.2, ⟨hk.1.1.2, hk.1.2⟩⟩⟩, hk.2⟩))))
         (case aB => exact bA)
         (case aF => exact (fun k_ hk => ⟨(.inr (Nat.le_trans (bS bA) hk)), Kd.freshB (g := gb262) (o := .cells #[.int .u64 a0_0, .slice A0_1 l0_1.length c0_1, .string a0_2] 68 (0, 0)) (bT BK262.out) k_ hk, Kd.freshB (g := gb263) (o := .cells #[.int .u64 0, .slice none 0 0, .string (⟨#[]⟩ : ByteArray)] 68 (0, 0)) (bT BK263.out) k_ hk, Kd.freshB (g := gb264) (o := .cells #[.int .u64 (IntKind.u64.wrap (a0_0 + 1)), .slice A1 l1.length c1] 46 (0, 0)) (bT BK264.out) k_ hk⟩))
         (case aO => exact (by exact Kd.N_to HO269.out))
         (case aS => exact (bS bA))
         (case aL => have := LMc17.out; omega)
         intro v271 w33 ho hb hg hat
         rw [← Ny270.out] at ho
         have n0_ := Ax.mk (Kd.V_afterv (ok := (fun k_ => ((P0_1_ k_ ∨ P1_ k_) ∨ w.heap.size ≤ k_) ∧ k_ ≠ gb262 ∧ k_ ≠ gb263 ∧ k_ ≠ gb264)) (by apply Kd.V_to; exact Kd.V_mono HO0_1.out (fun _ hk => ⟨⟨hk.1.1.1.1, ⟨hk.1.1.1.2, ⟨hk.1.1.2, hk.1.2⟩⟩⟩, hk.2⟩)) hg hat)
         have n1_ := Ax.mk (Kd.V_afterv (ok := (fun k_ => ((P0_1_ k_ ∨ P1_ k_) ∨ w.heap.size ≤ k_) ∧ k_ ≠ gb262 ∧ k_ ≠ gb263 ∧ k_ ≠ gb264)) (by apply Kd.V_to; exact Kd.V_mono HO1.out (fun _ hk => ⟨⟨hk.1.1.1.1, ⟨hk.1.1.1.2, ⟨hk.1.1.2, hk.1.2⟩⟩⟩, hk.2⟩)) hg hat)
         have n2_ := Ax.mk (blk_grown (g := gb262) (o := .cells #[.int .u64 a0_0, .slice A0_1 l0_1.length c0_1, .string a0_2] 68 (0, 0)) (bT BK262.out) hg (Kd.N_ne HO269.out BK262.out (by decide)))
         have n3_ := Ax.mk (blk_grown (g := gb263) (o := .cells #[.int .u64 0, .slice none 0 0, .string (⟨#[]⟩ : ByteArray)] 68 (0, 0)) (bT BK263.out) hg (Kd.N_ne HO269.out BK263.out (by decide)))
         have n4_ := Ax.mk (blk_grown (g := gb264) (o := .cells #[.int .u64 (IntKind.u64.wrap (a0_0 + 1)), .slice A1 l1.length c1] 46 (0, 0)) (bT BK264.out) hg (Kd.N_away HO269.out (fun _ hk => hk.2.2.2)))
         have n5_ := Ax.mk (hb)
         have n6_ := Ax.mk (ho)
         clear HO0_1
         clear HO1
         clear BK262
         clear BK263
         clear BK264
         clear HB
         clear HO269
         have HO0_1 := n0_
         have HO1 := n1_
         have BK262 := n2_
         have BK263 := n3_
         have BK264 := n4_
         have HB := n5_
         have HO272 := n6_
         clear n0_ n1_ n2_ n3_ n4_ n5_ n6_
         clear ho hb hg hat
         refine hK.out _ _ ⟨(bC BK262.out 0).trans rfl, (bC BK262.out 1).trans rfl, (bC BK262.out 2).trans rfl, (bC BK264.out 0).trans rfl, (bC BK264.out 1).trans rfl⟩ (fun hHeld => ?_)
         clear hK K
         refine norm_ (a' := ?_) ?_ ?_
         rotate_left
         ·show Act.put _ (some 33) _ = _
          simp only [Act.put, setIfInBounds_toArray, set_cons_zero, set_cons_succ, i64_w, i32_w]
          rfl
         refine one_ (i := 8) (N := some 35) #[true, true, true, true, true, true, true, true, true, false, true, true, true, true, false, false, false] rfl rfl (one_of HT_.out (by kernel_rfl)) (by decide) (fun K hK => ?_)
         refine Kd.N_lit_step k46 _ 46 ?hg (N' := 35) ?hd (xs := ([(⟨IntKind.u64.wrap (a0_0 + 1), l1⟩ : S46)] : List (S46))) (inner := [.int .u64 (IntKind.u64.wrap (a0_0 + 1)), .slice A1 l1.length c1]) (ok := (fun k_ => ((P0_1_ k_ ∨ P1_ k_) ∨ w.heap.size ≤ k_) ∧ some k_ ≠ (v271 : Value).ownBlock ∧ k_ ≠ gb262 ∧ k_ ≠ gb263 ∧ k_ ≠ gb264)) (okp := (fun k_ => ((P0_1_ k_ ∨ P1_ k_) ∨ w.heap.size ≤ k_) ∧ some k_ ≠ (v271 : Value).ownBlock ∧ k_ ≠ gb262 ∧ k_ ≠ gb263 ∧ k_ ≠ gb264)) ?hr ?hp (fun _ hk => hk) ((show ∀ k_, w33.heap.size ≤ k_ → (fun k_ => ((P0_1_ k_ ∨ P1_ k_) ∨ w.heap.size ≤ k_) ∧ some k_ ≠ (v271 : Value).ownBlock ∧ k_ ≠ gb262 ∧ k_ ≠ gb263 ∧ k_ ≠ gb264) k_ from fun k_ hk => ⟨(.inr (Nat.le_trans (bS bA) hk)), Kd.fresh' (Kd.N_lt (by exact Kd.N_to HO272.out)) k_ hk, Kd.freshB (g := gb262) (o := .cells #[.int .u64 a0_0, .slice A0_1 l0_1.length c0_1, .string a0_2] 68 (0, 0)) (bT BK262.out) k_ hk, Kd.freshB (g := gb263) (o := .cells #[.int .u64 0, .slice none 0 0, .string (⟨#[]⟩ : ByteArray)] 68 (0, 0)) (bT BK263.out) k_ hk, Kd.freshB (g := gb264) (o := .cells #[.int .u64 (IntKind.u64.wrap (a0_0 + 1)), .slice A1 l1.length c1] 46 (0, 0)) (bT BK264.out) k_ hk⟩) _ (Nat.le_refl _)) (Below.refl _ _) (Nat.le_refl _) (by simp) ?_; (case hd => rfl); (case hg => rfl); (case hr => first | (go_simp; done) | (go_simp; rfl)); (case hp => exact (Reps.c2 (show Kd.FK k46 _ _ (⟨IntKind.u64.wrap (a0_0 + 1), l1⟩ : S46) [.int .u64 (IntKind.u64.wrap (a0_0 + 1)), .slice A1 l1.length c1] from (k46_mkF _ _ (⟨IntKind.u64.wrap (a0_0 + 1), l1⟩ : S46) (Kd.V_reads' (Kd.V_mono (ok' := (fun k_ => ((P0_1_ k_ ∨ P1_ k_) ∨ w.heap.size ≤ k_) ∧ some k_ ≠ (v271 : Value).ownBlock ∧ k_ ≠ gb262 ∧ k_ ≠ gb263 ∧ k_ ≠ gb264)) (HO1.out) (fun k_ hk => ⟨hk.1.1, ⟨hk.2, ⟨hk.1.2.1, ⟨hk.1.2.2.1, hk.1.2.2.2⟩⟩⟩⟩))).2.1 (Kd.V_F (Kd.V_mono (ok' := (fun k_ => ((P0_1_ k_ ∨ P1_ k_) ∨ w.heap.size ≤ k_) ∧ some k_ ≠ (v271 : Value).ownBlock ∧ k_ ≠ gb262 ∧ k_ ≠ gb263 ∧ k_ ≠ gb264)) (HO1.out) (fun k_ hk => ⟨hk.1.1, ⟨hk.2, ⟨hk.1.2.1, ⟨hk.1.2.2.1, hk.1.2.2.2⟩⟩⟩⟩))))) (Reps.none _ _)))
         intro v274 w34 ho35 hb hg_ hnew_
         clear hg_ hnew_
         (first | rw [← Ny273.out] at ho35 | (simp only [Int.reduceToNat] at ho35; rw [← Ny273.out] at ho35))
         have n0_ := Ax.mk (Kd.V_elder' (by exact Kd.V_to HO0_1.out) (Kd.N_base ho35) hb)
         have n1_ := Ax.mk (Kd.V_elder' (by exact Kd.V_to HO1.out) (Kd.N_base ho35) hb)
         have n2_ := Ax.mk (Kd.N_elder' (by exact Kd.N_to HO272.out) (Kd.N_base ho35) hb)
         have n3_ := Ax.mk (Kd.N_lower ho35 (bS bA))
         have n4_ := Ax.mk (bB (bT BK262.out) hb)
         have n5_ := Ax.mk (bB (bT BK263.out) hb)
         have n6_ := Ax.mk (bB (bT BK264.out) hb)
         have n7_ := Ax.mk (bP bA hb)
         clear HO0_1
         clear HO1
         clear HO272
         clear BK262
         clear BK263
         clear BK264
         clear HB
         have HO0_1 := n0_
         have HO1 := n1_
         have HO272 := n2_
         have HO275 := n3_
         have BK262 := n4_
         have BK263 := n5_
         have BK264 := n6_
         have HB := n7_
         clear n0_ n1_ n2_ n3_ n4_ n5_ n6_ n7_
         clear hb ho35
         refine hK.out _ _ ⟨(bC BK262.out 0).trans rfl, (bC BK262.out 1).trans rfl, (bC BK262.out 2).trans rfl, (bC BK264.out 0).trans rfl, (bC BK264.out 1).trans rfl⟩ (fun hHeld => ?_)
         clear hK K
         refine norm_ (a' := ?_) ?_ ?_
         rotate_left
         ·show Act.put _ (some 35) _ = _
          simp only [Act.put, setIfInBounds_toArray, set_cons_zero, set_cons_succ, i64_w, i32_w]
          rfl
         exact norm_ (by simp only [putAll, Act.put, List.setIfInBounds_toArray, List.set_cons_zero, List.set_cons_succ]) (hCont (v268, v271, v274) _ ⟨hHeld, (by apply Kd.V_to; exact Kd.V_mono HO0_1.out (fun _ hk => ⟨hk.1.1.1, ⟨hk.1.2, ⟨hk.2, ⟨hk.1.1.2.1, ⟨hk.1.1.2.2.1, hk.1.1.2.2.2⟩⟩⟩⟩⟩)), (by apply Kd.V_to; exact Kd.V_mono HO1.out (fun _ hk => ⟨hk.1.1.1, ⟨hk.1.2, ⟨hk.2, ⟨hk.1.1.2.1, ⟨hk.1.1.2.2.1, hk.1.1.2.2.2⟩⟩⟩⟩⟩)), (by apply Kd.N_to; exact Kd.N_mono HO272.out (fun _ hk => ⟨hk.1.1, ⟨hk.2, ⟨hk.1.2.1, ⟨hk.1.2.2.1, hk.1.2.2.2⟩⟩⟩⟩)), (by exact Kd.N_to HO275.out), (bT BK262.out), (bT BK263.out), (bT BK264.out), bA⟩)
        ·skip
         refine Kd.N_lit_step k46 _ 46 ?hg (N' := 35) ?hd (xs := ([(⟨IntKind.u64.wrap (a0_0 + 1), l1⟩ : S46)] : List (S46))) (inner := [.int .u64 (IntKind.u64.wrap (a0_0 + 1)), .slice A1 l1.length c1]) (ok := (fun k_ => ((P0_1_ k_ ∨ P1_ k_) ∨ w.heap.size ≤ k_) ∧ some k_ ≠ (v268 : Value).ownBlock ∧ k_ ≠ gb262 ∧ k_ ≠ gb263 ∧ k_ ≠ gb264)) (okp := (fun k_ => ((P0_1_ k_ ∨ P1_ k_) ∨ w.heap.size ≤ k_) ∧ some k_ ≠ (v268 : Value).ownBlock ∧ k_ ≠ gb262 ∧ k_ ≠ gb263 ∧ k_ ≠ gb264)) ?hr ?hp (fun _ hk => hk) ((show ∀ k_, w31.heap.size ≤ k_ → (fun k_ => ((P0_1_ k_ ∨ P1_ k_) ∨ w.heap.size ≤ k_) ∧ some k_ ≠ (v268 : Value).ownBlock ∧ k_ ≠ gb262 ∧ k_ ≠ gb263 ∧ k_ ≠ gb264) k_ from fun k_ hk => ⟨(.inr (Nat.le_trans (bS bA) hk)), Kd.fresh' (Kd.N_lt (by exact Kd.N_to HO269.out)) k_ hk, Kd.freshB (g := gb262) (o := .cells #[.int .u64 a0_0, .slice A0_1 l0_1.length c0_1, .string a0_2] 68 (0, 0)) (bT BK262.out) k_ hk, Kd.freshB (g := gb263) (o := .cells #[.int .u64 0, .slice none 0 0, .string (⟨#[]⟩ : ByteArray)] 68 (0, 0)) (bT BK263.out) k_ hk, Kd.freshB (g := gb264) (o := .cells #[.int .u64 (IntKind.u64.wrap (a0_0 + 1)), .slice A1 l1.length c1] 46 (0, 0)) (bT BK264.out) k_ hk⟩) _ (Nat.le_refl _)) (Below.refl _ _) (Nat.le_refl _) (by simp) ?_; (case hd => rfl); (case hg => rfl); (case hr => first | (go_simp; done) | (go_simp; rfl)); (case hp => exact (Reps.c2 (show Kd.FK k46 _ _ (⟨IntKind.u64.wrap (a0_0 + 1), l1⟩ : S46) [.int .u64 (IntKind.u64.wrap (a0_0 + 1)), .slice A1 l1.length c1] from (k46_mkF _ _ (⟨IntKind.u64.wrap (a0_0 + 1), l1⟩ : S46) (Kd.V_reads' (Kd.V_mono (ok' := (fun k_ => ((P0_1_ k_ ∨ P1_ k_) ∨ w.heap.size ≤ k_) ∧ some k_ ≠ (v268 : Value).ownBlock ∧ k_ ≠ gb262 ∧ k_ ≠ gb263 ∧ k_ ≠ gb264)) (HO1.out) (fun k_ hk => ⟨hk.1.1.1.1, ⟨hk.2, ⟨hk.1.1.1.2, ⟨hk.1.1.2, hk.1.2⟩⟩⟩⟩))).2.1 (Kd.V_F (Kd.V_mono (ok' := (fun k_ => ((P0_1_ k_ ∨ P1_ k_) ∨ w.heap.size ≤ k_) ∧ some k_ ≠ (v268 : Value).ownBlock ∧ k_ ≠ gb262 ∧ k_ ≠ gb263 ∧ k_ ≠ gb264)) (HO1.out) (fun k_ hk => ⟨hk.1.1.1.1, ⟨hk.2, ⟨hk.1.1.1.2, ⟨hk.1.1.2, hk.1.2⟩⟩⟩⟩))))) (Reps.none _ _)))
         intro v274 w33 ho34 hb hg_ hnew_
         clear hg_ hnew_
         (first | rw [← Ny273.out] at ho34 | (simp only [Int.reduceToNat] at ho34; rw [← Ny273.out] at ho34))
         have n0_ := Ax.mk (Kd.V_elder' (by exact Kd.V_to HO0_1.out) (Kd.N_base ho34) hb)
         have n1_ := Ax.mk (Kd.V_elder' (by exact Kd.V_to HO1.out) (Kd.N_base ho34) hb)
         have n2_ := Ax.mk (Kd.N_elder' (by exact Kd.N_to HO269.out) (Kd.N_base ho34) hb)
         have n3_ := Ax.mk (Kd.N_lower ho34 (bS bA))
         have n4_ := Ax.mk (bB (bT BK262.out) hb)
         have n5_ := Ax.mk (bB (bT BK263.out) hb)
         have n6_ := Ax.mk (bB (bT BK264.out) hb)
         have n7_ := Ax.mk (bP bA hb)
         clear HO0_1
         clear HO1
         clear HO269
         clear BK262
         clear BK263
         clear BK264
         clear HB
         have HO0_1 := n0_
         have HO1 := n1_
         have HO269 := n2_
         have HO275 := n3_
         have BK262 := n4_
         have BK263 := n5_
         have BK264 := n6_
         have HB := n7_
         clear n0_ n1_ n2_ n3_ n4_ n5_ n6_ n7_
         clear hb ho34
         refine hK.out _ _ ⟨(bC BK262.out 0).trans rfl, (bC BK262.out 1).trans rfl, (bC BK262.out 2).trans rfl, (bC BK264.out 0).trans rfl, (bC BK264.out 1).trans rfl⟩ (fun hHeld => ?_)
         clear hK K
         refine norm_ (a' := ?_) ?_ ?_
         rotate_left
         ·show Act.put _ (some 35) _ = _
          simp only [Act.put, setIfInBounds_toArray, set_cons_zero, set_cons_succ, i64_w, i32_w]
          rfl
         refine one_ (i := 6) (N := some 33) #[true, true, true, true, true, true, true, true, true, false, true, true, true, true, false, false, false] rfl rfl (one_of HT_.out (by kernel_rfl)) (by decide) (fun K hK => ?_)
         refine Kd.N_append_rows_step k46 (w0 := w) w.heap.size (by rfl) (.tmp 30) (.tmp 32) 40 46 (.agg #[(.int .u64 0), (.slice none 0 0)]) 32 rfl Tryd.underlying40 info46 rfl (by decide) (by omega) v268 y267 l0_1 _ _ _ (fun k_ => ((P0_1_ k_ ∨ P1_ k_) ∨ w.heap.size ≤ k_) ∧ some k_ ≠ (v274 : Value).ownBlock ∧ k_ ≠ gb262 ∧ k_ ≠ gb263 ∧ k_ ≠ gb264) (fun k_ => ((fun k_ => ((P0_1_ k_ ∨ P1_ k_) ∨ w.heap.size ≤ k_) ∧ some k_ ≠ (v274 : Value).ownBlock ∧ k_ ≠ gb262 ∧ k_ ≠ gb263 ∧ k_ ≠ gb264)) k_ ∧ some k_ ≠ (v268 : Value).ownBlock) rfl rfl ?aO ?aR (fun _ hk => hk) ?aF ?aB ?aS ?aL ?_
         (case aR => exact (by skip; exact Kd.V_F (Kd.V_mono (ok' := (fun k_ => ((fun k_ => ((P0_1_ k_ ∨ P1_ k_) ∨ w.heap.size ≤ k_) ∧ some k_ ≠ (v274 : Value).ownBlock ∧ k_ ≠ gb262 ∧ k_ ≠ gb263 ∧ k_ ≠ gb264)) k_ ∧ some k_ ≠ (v268 : Value).ownBlock)) (HO0_1.out) (fun k_ hk => ⟨⟨hk.1.1.1.1.1, ⟨hk.2, ⟨hk.1.1.1.1.2, ⟨hk.1.1.1.2, hk.1.1.2⟩⟩⟩⟩, hk.1.2⟩))))
         (case aB => exact bA)
         (case aF => exact (fun k_ hk => ⟨(.inr (Nat.le_trans (bS bA) hk)), Kd.fresh' (Kd.N_lt (by exact Kd.N_to HO275.out)) k_ hk, Kd.freshB (g := gb262) (o := .cells #[.int .u64 a0_0, .slice A0_1 l0_1.length c0_1, .string a0_2] 68 (0, 0)) (bT BK262.out) k_ hk, Kd.freshB (g := gb263) (o := .cells #[.int .u64 0, .slice none 0 0, .string (⟨#[]⟩ : ByteArray)] 68 (0, 0)) (bT BK263.out) k_ hk, Kd.freshB (g := gb264) (o := .cells #[.int .u64 (IntKind.u64.wrap (a0_0 + 1)), .slice A1 l1.length c1] 46 (0, 0)) (bT BK264.out) k_ hk⟩))
         (case aO => exact (by apply Kd.N_to; exact Kd.N_mono HO269.out (fun _ hk => ⟨hk.1.1, ⟨hk.2, ⟨hk.1.2.1, ⟨hk.1.2.2.1, hk.1.2.2.2⟩⟩⟩⟩)))
         (case aS => exact (bS bA))
         (case aL => have := LMc17.out; omega)
         intro v271 w35 ho hb hg hat
         rw [← Ny270.out] at ho
         have n0_ := Ax.mk (Kd.V_afterv (ok := (fun k_ => ((P0_1_ k_ ∨ P1_ k_) ∨ w.heap.size ≤ k_) ∧ some k_ ≠ (v274 : Value).ownBlock ∧ k_ ≠ gb262 ∧ k_ ≠ gb263 ∧ k_ ≠ gb264)) (by apply Kd.V_to; exact Kd.V_mono HO0_1.out (fun _ hk => ⟨⟨hk.1.1.1.1.1, ⟨hk.2, ⟨hk.1.1.1.1.2, ⟨hk.1.1.1.2, hk.1.1.2⟩⟩⟩⟩, hk.1.2⟩)) hg hat)
         have n1_ := Ax.mk (Kd.V_afterv (ok := (fun k_ => ((P0_1_ k_ ∨ P1_ k_) ∨ w.heap.size ≤ k_) ∧ some k_ ≠ (v274 : Value).ownBlock ∧ k_ ≠ gb262 ∧ k_ ≠ gb263 ∧ k_ ≠ gb264)) (by apply Kd.V_to; exact Kd.V_mono HO1.out (fun _ hk => ⟨⟨hk.1.1.1.1.1, ⟨hk.2, ⟨hk.1.1.1.1.2, ⟨hk.1.1.1.2, hk.1.1.2⟩⟩⟩⟩, hk.1.2⟩)) hg hat)
         have n2_ := Ax.mk (blk_grown (g := gb262) (o := .cells #[.int .u64 a0_0, .slice A0_1 l0_1.length c0_1, .string a0_2] 68 (0, 0)) (bT BK262.out) hg (Kd.N_ne HO269.out BK262.out (by decide)))
         have n3_ := Ax.mk (blk_grown (g := gb263) (o := .cells #[.int .u64 0, .slice none 0 0, .string (⟨#[]⟩ : ByteArray)] 68 (0, 0)) (bT BK263.out) hg (Kd.N_ne HO269.out BK263.out (by decide)))
         have n4_ := Ax.mk (blk_grown (g := gb264) (o := .cells #[.int .u64 (IntKind.u64.wrap (a0_0 + 1)), .slice A1 l1.length c1] 46 (0, 0)) (bT BK264.out) hg (Kd.N_away HO269.out (fun _ hk => hk.1.2.2.2)))
         have n5_ := Ax.mk (Kd.N_afterv (ok := (fun k_ => ((P0_1_ k_ ∨ P1_ k_) ∨ w.heap.size ≤ k_) ∧ k_ ≠ gb262 ∧ k_ ≠ gb263 ∧ k_ ≠ gb264)) (by apply Kd.N_to; exact Kd.N_mono HO275.out (fun _ hk => ⟨⟨hk.1, ⟨hk.2.2.1, ⟨hk.2.2.2.1, hk.2.2.2.2⟩⟩⟩, hk.2.1⟩)) hg hat)
         have n6_ := Ax.mk (hb)
         have n7_ := Ax.mk (ho)
         clear HO0_1
         clear HO1
         clear BK262
         clear BK263
         clear BK264
         clear HO275
         clear HB
         clear HO269
         have HO0_1 := n0_
         have HO1 := n1_
         have BK262 := n2_
         have BK263 := n3_
         have BK264 := n4_
         have HO275 := n5_
         have HB := n6_
         have HO272 := n7_
         clear n0_ n1_ n2_ n3_ n4_ n5_ n6_ n7_
         clear ho hb hg hat
         refine hK.out _ _ ⟨(bC BK262.out 0).trans rfl, (bC BK262.out 1).trans rfl, (bC BK262.out 2).trans rfl, (bC BK264.out 0).trans rfl, (bC BK264.out 1).trans rfl⟩ (fun hHeld => ?_)
         clear hK K
         refine norm_ (a' := ?_) ?_ ?_
         rotate_left
         ·show Act.put _ (some 33) _ = _
          simp only [Act.put, setIfInBounds_toArray, set_cons_zero, set_cons_succ, i64_w, i32_w]
          rfl
         exact norm_ (by simp only [putAll, Act.put, List.setIfInBounds_toArray, List.set_cons_zero, List.set_cons_succ]) (hCont (v268, v271, v274) _ ⟨hHeld, (by apply Kd.V_to; exact Kd.V_mono HO0_1.out (fun _ hk => ⟨hk.1.1, ⟨hk.2, ⟨hk.1.2.1, ⟨hk.1.2.2.1, ⟨hk.1.2.2.2.1, hk.1.2.2.2.2⟩⟩⟩⟩⟩)), (by apply Kd.V_to; exact Kd.V_mono HO1.out (fun _ hk => ⟨hk.1.1, ⟨hk.2, ⟨hk.1.2.1, ⟨hk.1.2.2.1, ⟨hk.1.2.2.2.1, hk.1.2.2.2.2⟩⟩⟩⟩⟩)), (by exact Kd.N_to HO272.out), (by apply Kd.N_to; exact Kd.N_mono HO275.out (fun _ hk => ⟨hk.1.1, ⟨hk.2, ⟨hk.1.2.1, ⟨hk.1.2.2.1, hk.1.2.2.2⟩⟩⟩⟩)), (bT BK262.out), (bT BK263.out), (bT BK264.out), bA⟩)
       ·skip
        refine Kd.N_lit_step k46 _ 46 ?hg (N' := 35) ?hd (xs := ([(⟨IntKind.u64.wrap (a0_0 + 1), l1⟩ : S46)] : List (S46))) (inner := [.int .u64 (IntKind.u64.wrap (a0_0 + 1)), .slice A1 l1.length c1]) (ok := (fun k_ => ((P0_1_ k_ ∨ P1_ k_) ∨ w.heap.size ≤ k_) ∧ k_ ≠ gb262 ∧ k_ ≠ gb263 ∧ k_ ≠ gb264)) (okp := (fun k_ => ((P0_1_ k_ ∨ P1_ k_) ∨ w.heap.size ≤ k_) ∧ k_ ≠ gb262 ∧ k_ ≠ gb263 ∧ k_ ≠ gb264)) ?hr ?hp (fun _ hk => hk) ((show ∀ k_, w30.heap.size ≤ k_ → (fun k_ => ((P0_1_ k_ ∨ P1_ k_) ∨ w.heap.size ≤ k_) ∧ k_ ≠ gb262 ∧ k_ ≠ gb263 ∧ k_ ≠ gb264) k_ from fun k_ hk => ⟨(.inr (Nat.le_trans (bS bA) hk)), Kd.freshB (g := gb262) (o := .cells #[.int .u64 a0_0, .slice A0_1 l0_1.length c0_1, .string a0_2] 68 (0, 0)) (bT BK262.out) k_ hk, Kd.freshB (g := gb263) (o := .cells #[.int .u64 0, .slice none 0 0, .string (⟨#[]⟩ : ByteArray)] 68 (0, 0)) (bT BK263.out) k_ hk, Kd.freshB (g := gb264) (o := .cells #[.int .u64 (IntKind.u64.wrap (a0_0 + 1)), .slice A1 l1.length c1] 46 (0, 0)) (bT BK264.out) k_ hk⟩) _ (Nat.le_refl _)) (Below.refl _ _) (Nat.le_refl _) (by simp) ?_; (case hd => rfl); (case hg => rfl); (case hr => first | (go_simp; done) | (go_simp; rfl)); (case hp => exact (Reps.c2 (show Kd.FK k46 _ _ (⟨IntKind.u64.wrap (a0_0 + 1), l1⟩ : S46) [.int .u64 (IntKind.u64.wrap (a0_0 + 1)), .slice A1 l1.length c1] from (k46_mkF _ _ (⟨IntKind.u64.wrap (a0_0 + 1), l1⟩ : S46) (Kd.V_reads' (Kd.V_mono (ok' := (fun k_ => ((P0_1_ k_ ∨ P1_ k_) ∨ w.heap.size ≤ k_) ∧ k_ ≠ gb262 ∧ k_ ≠ gb263 ∧ k_ ≠ gb264)) (HO1.out) (fun k_ hk => ⟨hk.1.1.1, ⟨hk.1.1.2, ⟨hk.1.2, hk.2⟩⟩⟩))).2.1 (Kd.V_F (Kd.V_mono (ok' := (fun k_ => ((P0_1_ k_ ∨ P1_ k_) ∨ w.heap.size ≤ k_) ∧ k_ ≠ gb262 ∧ k_ ≠ gb263 ∧ k_ ≠ gb264)) (HO1.out) (fun k_ hk => ⟨hk.1.1.1, ⟨hk.1.1.2, ⟨hk.1.2, hk.2⟩⟩⟩))))) (Reps.none _ _)))
        intro v274 w31 ho32 hb hg_ hnew_
        clear hg_ hnew_
        (first | rw [← Ny273.out] at ho32 | (simp only [Int.reduceToNat] at ho32; rw [← Ny273.out] at ho32))
        have n0_ := Ax.mk (Kd.V_elder' (by exact Kd.V_to HO0_1.out) (Kd.N_base ho32) hb)
        have n1_ := Ax.mk (Kd.V_elder' (by exact Kd.V_to HO1.out) (Kd.N_base ho32) hb)
        have n2_ := Ax.mk (Kd.N_lower ho32 (bS bA))
        have n3_ := Ax.mk (bB (bT BK262.out) hb)
        have n4_ := Ax.mk (bB (bT BK263.out) hb)
        have n5_ := Ax.mk (bB (bT BK264.out) hb)
        have n6_ := Ax.mk (bP bA hb)
        clear HO0_1
        clear HO1
        clear BK262
        clear BK263
        clear BK264
        clear HB
        have HO0_1 := n0_
        have HO1 := n1_
        have HO275 := n2_
        have BK262 := n3_
        have BK263 := n4_
        have BK264 := n5_
        have HB := n6_
        clear n0_ n1_ n2_ n3_ n4_ n5_ n6_
        clear hb ho32
        refine hK.out _ _ ⟨(bC BK262.out 0).trans rfl, (bC BK262.out 1).trans rfl, (bC BK262.out 2).trans rfl, (bC BK264.out 0).trans rfl, (bC BK264.out 1).trans rfl⟩ (fun hHeld => ?_)
        clear hK K
        refine norm_ (a' := ?_) ?_ ?_
        rotate_left
        ·show Act.put _ (some 35) _ = _
         simp only [Act.put, setIfInBounds_toArray, set_cons_zero, set_cons_succ, i64_w, i32_w]
         rfl
        refine one_ (i := 3) (N := some 30) #[true, true, true, true, true, true, false, true, true, false, true, true, true, true, false, false, false] rfl rfl (one_of HT_.out (by kernel_rfl)) (by decide) (fun K hK => ?_)
        refine Kd.N_lit_step k46 _ 46 ?hg (N' := 30) ?hd (xs := ([] : List (S46))) (inner := []) (ok := (fun k_ => ((P0_1_ k_ ∨ P1_ k_) ∨ w.heap.size ≤ k_) ∧ some k_ ≠ (v274 : Value).ownBlock ∧ k_ ≠ gb262 ∧ k_ ≠ gb263 ∧ k_ ≠ gb264)) (okp := (fun k_ => ((P0_1_ k_ ∨ P1_ k_) ∨ w.heap.size ≤ k_) ∧ some k_ ≠ (v274 : Value).ownBlock ∧ k_ ≠ gb262 ∧ k_ ≠ gb263 ∧ k_ ≠ gb264)) ?hr ?hp (fun _ hk => hk) ((show ∀ k_, w31.heap.size ≤ k_ → (fun k_ => ((P0_1_ k_ ∨ P1_ k_) ∨ w.heap.size ≤ k_) ∧ some k_ ≠ (v274 : Value).ownBlock ∧ k_ ≠ gb262 ∧ k_ ≠ gb263 ∧ k_ ≠ gb264) k_ from fun k_ hk => ⟨(.inr (Nat.le_trans (bS bA) hk)), Kd.fresh' (Kd.N_lt (by exact Kd.N_to HO275.out)) k_ hk, Kd.freshB (g := gb262) (o := .cells #[.int .u64 a0_0, .slice A0_1 l0_1.length c0_1, .string a0_2] 68 (0, 0)) (bT BK262.out) k_ hk, Kd.freshB (g := gb263) (o := .cells #[.int .u64 0, .slice none 0 0, .string (⟨#[]⟩ : ByteArray)] 68 (0, 0)) (bT BK263.out) k_ hk, Kd.freshB (g := gb264) (o := .cells #[.int .u64 (IntKind.u64.wrap (a0_0 + 1)), .slice A1 l1.length c1] 46 (0, 0)) (bT BK264.out) k_ hk⟩) _ (Nat.le_refl _)) (Below.refl _ _) (Nat.le_refl _) (by simp) ?_; (case hd => rfl); (case hg => rfl); (case hr => first | (go_simp; done) | (go_simp; rfl)); (case hp => exact (Reps.none _ _))
        intro v268 w33 ho34 hb hg_ hnew_
        clear hg_ hnew_
        (first | rw [← Ny267.out] at ho34 | (simp only [Int.reduceToNat] at ho34; rw [← Ny267.out] at ho34))
        have n0_ := Ax.mk (Kd.V_elder' (by exact Kd.V_to HO0_1.out) (Kd.N_base ho34) hb)
        have n1_ := Ax.mk (Kd.V_elder' (by exact Kd.V_to HO1.out) (Kd.N_base ho34) hb)
        have n2_ := Ax.mk (Kd.N_elder' (by exact Kd.N_to HO275.out) (Kd.N_base ho34) hb)
        have n3_ := Ax.mk (Kd.N_lower ho34 (bS bA))
        have n4_ := Ax.mk (bB (bT BK262.out) hb)
        have n5_ := Ax.mk (bB (bT BK263.out) hb)
        have n6_ := Ax.mk (bB (bT BK264.out) hb)
        have n7_ := Ax.mk (bP bA hb)
        clear HO0_1
        clear HO1
        clear HO275
        clear BK262
        clear BK263
        clear BK264
        clear HB
        have HO0_1 := n0_
        have HO1 := n1_
        have HO275 := n2_
        have HO269 := n3_
        have BK262 := n4_
        have BK263 := n5_
        have BK264 := n6_
        have HB := n7_
        clear n0_ n1_ n2_ n3_ n4_ n5_ n6_ n7_
        clear hb ho34
        refine hK.out _ _ ⟨(bC BK262.out 0).trans rfl, (bC BK262.out 1).trans rfl, (bC BK262.out 2).trans rfl, (bC BK264.out 0).trans rfl, (bC BK264.out 1).trans rfl⟩ (fun hHeld => ?_)
        clear hK K
        refine norm_ (a' := ?_) ?_ ?_
        rotate_left
        ·show Act.put _ (some 30) _ = _
         simp only [Act.put, setIfInBounds_toArray, set_cons_zero, set_cons_succ, i64_w, i32_w]
         rfl
        refine one_ (i := 6) (N := some 33) #[true, true, true, true, true, true, true, true, true, false, true, true, true, true, false, false, false] rfl rfl (one_of HT_.out (by kernel_rfl)) (by decide) (fun K hK => ?_)
        refine Kd.N_append_rows_step k46 (w0 := w) w.heap.size (by rfl) (.tmp 30) (.tmp 32) 40 46 (.agg #[(.int .u64 0), (.slice none 0 0)]) 32 rfl Tryd.underlying40 info46 rfl (by decide) (by omega) v268 y267 l0_1 _ _ _ (fun k_ => ((P0_1_ k_ ∨ P1_ k_) ∨ w.heap.size ≤ k_) ∧ some k_ ≠ (v274 : Value).ownBlock ∧ k_ ≠ gb262 ∧ k_ ≠ gb263 ∧ k_ ≠ gb264) (fun k_ => ((fun k_ => ((P0_1_ k_ ∨ P1_ k_) ∨ w.heap.size ≤ k_) ∧ some k_ ≠ (v274 : Value).ownBlock ∧ k_ ≠ gb262 ∧ k_ ≠ gb263 ∧ k_ ≠ gb264)) k_ ∧ some k_ ≠ (v268 : Value).ownBlock) rfl rfl ?aO ?aR (fun _ hk => hk) ?aF ?aB ?aS ?aL ?_
        (case aR => exact (by skip; exact Kd.V_F (Kd.V_mono (ok' := (fun k_ => ((fun k_ => ((P0_1_ k_ ∨ P1_ k_) ∨ w.heap.size ≤ k_) ∧ some k_ ≠ (v274 : Value).ownBlock ∧ k_ ≠ gb262 ∧ k_ ≠ gb263 ∧ k_ ≠ gb264)) k_ ∧ some k_ ≠ (v268 : Value).ownBlock)) (HO0_1.out) (fun k_ hk => ⟨⟨hk.1.1.1.1.1, ⟨hk.1.2, ⟨hk.1.1.1.1.2, ⟨hk.1.1.1.2, hk.1.1.2⟩⟩⟩⟩, hk.2⟩))))
        (case aB => exact bA)
        (case aF => exact (fun k_ hk => ⟨(.inr (Nat.le_trans (bS bA) hk)), Kd.fresh' (Kd.N_lt (by exact Kd.N_to HO275.out)) k_ hk, Kd.freshB (g := gb262) (o := .cells #[.int .u64 a0_0, .slice A0_1 l0_1.length c0_1, .string a0_2] 68 (0, 0)) (bT BK262.out) k_ hk, Kd.freshB (g := gb263) (o := .cells #[.int .u64 0, .slice none 0 0, .string (⟨#[]⟩ : ByteArray)] 68 (0, 0)) (bT BK263.out) k_ hk, Kd.freshB (g := gb264) (o := .cells #[.int .u64 (IntKind.u64.wrap (a0_0 + 1)), .slice A1 l1.length c1] 46 (0, 0)) (bT BK264.out) k_ hk⟩))
        (case aO => exact (by exact Kd.N_to HO269.out))
        (case aS => exact (bS bA))
        (case aL => have := LMc17.out; omega)
        intro v271 w35 ho hb hg hat
        rw [← Ny270.out] at ho
        have n0_ := Ax.mk (Kd.V_afterv (ok := (fun k_ => ((P0_1_ k_ ∨ P1_ k_) ∨ w.heap.size ≤ k_) ∧ some k_ ≠ (v274 : Value).ownBlock ∧ k_ ≠ gb262 ∧ k_ ≠ gb263 ∧ k_ ≠ gb264)) (by apply Kd.V_to; exact Kd.V_mono HO0_1.out (fun _ hk => ⟨⟨hk.1.1.1.1.1, ⟨hk.1.2, ⟨hk.1.1.1.1.2, ⟨hk.1.1.1.2, hk.1.1.2⟩⟩⟩⟩, hk.2⟩)) hg hat)
        have n1_ := Ax.mk (Kd.V_afterv (ok := (fun k_ => ((P0_1_ k_ ∨ P1_ k_) ∨ w.heap.size ≤ k_) ∧ some k_ ≠ (v274 : Value).ownBlock ∧ k_ ≠ gb262 ∧ k_ ≠ gb263 ∧ k_ ≠ gb264)) (by apply Kd.V_to; exact Kd.V_mono HO1.out (fun _ hk => ⟨⟨hk.1.1.1.1.1, ⟨hk.1.2, ⟨hk.1.1.1.1.2, ⟨hk.1.1.1.2, hk.1.1.2⟩⟩⟩⟩, hk.2⟩)) hg hat)
        have n2_ := Ax.mk (blk_grown (g := gb262) (o := .cells #[.int .u64 a0_0, .slice A0_1 l0_1.length c0_1, .string a0_2] 68 (0, 0)) (bT BK262.out) hg (Kd.N_ne HO269.out BK262.out (by decide)))
        have n3_ := Ax.mk (blk_grown (g := gb263) (o := .cells #[.int .u64 0, .slice none 0 0, .string (⟨#[]⟩ : ByteArray)] 68 (0, 0)) (bT BK263.out) hg (Kd.N_ne HO269.out BK263.out (by decide)))
        have n4_ := Ax.mk (blk_grown (g := gb264) (o := .cells #[.int .u64 (IntKind.u64.wrap (a0_0 + 1)), .slice A1 l1.length c1] 46 (0, 0)) (bT BK264.out) hg (Kd.N_away HO269.out (fun _ hk => hk.2.2.2.2)))
        have n5_ := Ax.mk (Kd.N_afterv (ok := (fun k_ => ((P0_1_ k_ ∨ P1_ k_) ∨ w.heap.size ≤ k_) ∧ k_ ≠ gb262 ∧ k_ ≠ gb263 ∧ k_ ≠ gb264)) (by exact Kd.N_to HO275.out) hg hat)
        have n6_ := Ax.mk (hb)
        have n7_ := Ax.mk (ho)
        clear HO0_1
        clear HO1
        clear BK262
        clear BK263
        clear BK264
        clear HO275
        clear HB
        clear HO269
        have HO0_1 := n0_
        have HO1 := n1_
        have BK262 := n2_
        have BK263 := n3_
        have BK264 := n4_
        have HO275 := n5_
        have HB := n6_
        have HO272 := n7_
        clear n0_ n1_ n2_ n3_ n4_ n5_ n6_ n7_
        clear ho hb hg hat
        refine hK.out _ _ ⟨(bC BK262.out 0).trans rfl, (bC BK262.out 1).trans rfl, (bC BK262.out 2).trans rfl, (bC BK264.out 0).trans rfl, (bC BK264.out 1).trans rfl⟩ (fun hHeld => ?_)
        clear hK K
        refine norm_ (a' := ?_) ?_ ?_
        rotate_left
        ·show Act.put _ (some 33) _ = _
         simp only [Act.put, setIfInBounds_toArray, set_cons_zero, set_cons_succ, i64_w, i32_w]
         rfl
        exact norm_ (by simp only [putAll, Act.put, List.setIfInBounds_toArray, List.set_cons_zero, List.set_cons_succ]) (hCont (v268, v271, v274) _ ⟨hHeld, (by apply Kd.V_to; exact Kd.V_mono HO0_1.out (fun _ hk => ⟨hk.1.1, ⟨hk.2, ⟨hk.1.2.1, ⟨hk.1.2.2.1, ⟨hk.1.2.2.2.1, hk.1.2.2.2.2⟩⟩⟩⟩⟩)), (by apply Kd.V_to; exact Kd.V_mono HO1.out (fun _ hk => ⟨hk.1.1, ⟨hk.2, ⟨hk.1.2.1, ⟨hk.1.2.2.1, ⟨hk.1.2.2.2.1, hk.1.2.2.2.2⟩⟩⟩⟩⟩)), (by exact Kd.N_to HO272.out), (by apply Kd.N_to; exact Kd.N_mono HO275.out (fun _ hk => ⟨hk.1.1, ⟨hk.2, ⟨hk.1.2.1, ⟨hk.1.2.2.1, hk.1.2.2.2⟩⟩⟩⟩)), (bT BK262.out), (bT BK263.out), (bT BK264.out), bA⟩)
      rintro ⟨v268, v271, v274⟩ w36 ⟨hS_, h0_, h1_, h2_, h3_, h4_, h5_, h6_, h7_⟩
      have n0_ : Ax (Kd.V k46 46 w36 w.heap.size (fun k_ => ((P0_1_ k_ ∨ P1_ k_) ∨ w.heap.size ≤ k_) ∧ some k_ ≠ (v271 : Value).ownBlock ∧ some k_ ≠ (v274 : Value).ownBlock ∧ k_ ≠ gb262 ∧ k_ ≠ gb263 ∧ k_ ≠ gb264) (.slice A0_1 l0_1.length c0_1) l0_1) := ⟨h0_⟩
      have n1_ : Ax (Kd.V k26 26 w36 w.heap.size (fun k_ => ((P0_1_ k_ ∨ P1_ k_) ∨ w.heap.size ≤ k_) ∧ some k_ ≠ (v271 : Value).ownBlock ∧ some k_ ≠ (v274 : Value).ownBlock ∧ k_ ≠ gb262 ∧ k_ ≠ gb263 ∧ k_ ≠ gb264) (.slice A1 l1.length c1) l1) := ⟨h1_⟩
      have n2_ : Ax (Kd.N k46 46 w36 w.heap.size (fun k_ => ((P0_1_ k_ ∨ P1_ k_) ∨ w.heap.size ≤ k_) ∧ some k_ ≠ (v274 : Value).ownBlock ∧ k_ ≠ gb262 ∧ k_ ≠ gb263 ∧ k_ ≠ gb264) v271 y270) := ⟨h2_⟩
      have n3_ : Ax (Kd.N k46 46 w36 w.heap.size (fun k_ => ((P0_1_ k_ ∨ P1_ k_) ∨ w.heap.size ≤ k_) ∧ some k_ ≠ (v271 : Value).ownBlock ∧ k_ ≠ gb262 ∧ k_ ≠ gb263 ∧ k_ ≠ gb264) v274 y273) := ⟨h3_⟩
      have n4_ : Ax (w36.heap[gb262]? = some (.cells #[.int .u64 a0_0, .slice A0_1 l0_1.length c0_1, .string a0_2] 68 (0, 0))) := ⟨h4_⟩
      have n5_ : Ax (w36.heap[gb263]? = some (.cells #[.int .u64 0, .slice none 0 0, .string (⟨#[]⟩ : ByteArray)] 68 (0, 0))) := ⟨h5_⟩
      have n6_ : Ax (w36.heap[gb264]? = some (.cells #[.int .u64 (IntKind.u64.wrap (a0_0 + 1)), .slice A1 l1.length c1] 46 (0, 0))) := ⟨h6_⟩
      have n7_ : Ax (Below w.heap.size w w36) := ⟨h7_⟩
      clear HO0_1
      clear HO1
      clear BK262
      clear BK263
      clear BK264
      clear HB
      clear h0_ h1_ h2_ h3_ h4_ h5_ h6_ h7_
      have HO0_1 := n0_
      have HO1 := n1_
      have HO272 := n2_
      have HO275 := n3_
      have BK262 := n4_
      have BK263 := n5_
      have BK264 := n6_
      have HB := n7_
      clear n0_ n1_ n2_ n3_ n4_ n5_ n6_ n7_
      have hHeld : w36.cell? ⟨gb262, 0, none⟩ = some (.int .u64 a0_0) ∧ w36.cell? ⟨gb262, 1, none⟩ = some (.slice A0_1 l0_1.length c0_1) ∧ w36.cell? ⟨gb262, 2, none⟩ = some (.string a0_2) ∧ w36.cell? ⟨gb264, 0, none⟩ = some (.int .u64 (IntKind.u64.wrap (a0_0 + 1))) ∧ w36.cell? ⟨gb264, 1, none⟩ = some (.slice A1 l1.length c1) := hS_
      obtain ⟨Ao38, co38, eo38⟩ := Kd.N_slice HO275.out
      (first | subst eo38 | (injection eo38 with f1_ f2_ f3_; have f4_ := f1_.symm; have f5_ := f3_.symm; clear f1_ f2_ f3_; subst f4_; subst f5_))
      refine norm_ (a' := ?_) ?_ ?_
      rotate_left
      ·simp only [putAll, Act.put, List.setIfInBounds_toArray, List.set_cons_zero, List.set_cons_succ]
       rfl
      refine one_ (i := 9) (N := some 36) #[true, true, true, true, true, true, true, true, true, true, true, true, true, true, false, false, false] rfl rfl (one_of HT_.out (by kernel_rfl)) (by decide) (fun K hK => ?_)
      refine Kd.N_append_rows_step k46 (w0 := w) w.heap.size (by rfl) (.tmp 33) (.tmp 35) 40 46 (.agg #[(.int .u64 0), (.slice none 0 0)]) 32 rfl Tryd.underlying40 info46 rfl (by decide) (by omega) v271 y270 y273 _ _ _ (fun k_ => ((P0_1_ k_ ∨ P1_ k_) ∨ w.heap.size ≤ k_) ∧ k_ ≠ gb262 ∧ k_ ≠ gb263 ∧ k_ ≠ gb264) (fun k_ => ((fun k_ => ((P0_1_ k_ ∨ P1_ k_) ∨ w.heap.size ≤ k_) ∧ k_ ≠ gb262 ∧ k_ ≠ gb263 ∧ k_ ≠ gb264)) k_ ∧ some k_ ≠ (v271 : Value).ownBlock) rfl rfl ?aO ?aR (fun _ hk => hk) ?aF ?aB ?aS ?aL ?_
      (case aR => exact (by skip; exact Kd.N_F (Kd.N_mono (ok' := (fun k_ => ((fun k_ => ((P0_1_ k_ ∨ P1_ k_) ∨ w.heap.size ≤ k_) ∧ k_ ≠ gb262 ∧ k_ ≠ gb263 ∧ k_ ≠ gb264)) k_ ∧ some k_ ≠ (v271 : Value).ownBlock)) (HO275.out) (fun k_ hk => ⟨⟨hk.1, ⟨hk.2.2.1, ⟨hk.2.2.2.1, hk.2.2.2.2⟩⟩⟩, hk.2.1⟩))))
      (case aB => exact bA)
      (case aF => exact (fun k_ hk => ⟨(.inr (Nat.le_trans (bS bA) hk)), Kd.freshB (g := gb262) (o := .cells #[.int .u64 a0_0, .slice A0_1 l0_1.length c0_1, .string a0_2] 68 (0, 0)) (bT BK262.out) k_ hk, Kd.freshB (g := gb263) (o := .cells #[.int .u64 0, .slice none 0 0, .string (⟨#[]⟩ : ByteArray)] 68 (0, 0)) (bT BK263.out) k_ hk, Kd.freshB (g := gb264) (o := .cells #[.int .u64 (IntKind.u64.wrap (a0_0 + 1)), .slice A1 l1.length c1] 46 (0, 0)) (bT BK264.out) k_ hk⟩))
      (case aO => exact (by apply Kd.N_to; exact Kd.N_mono HO272.out (fun _ hk => ⟨hk.1, ⟨hk.2.2.1, ⟨hk.2.2.2.1, hk.2.2.2.2⟩⟩⟩)))
      (case aS => exact (bS bA))
      (case aL => have := LMc18.out; omega)
      intro v277 w37 ho hb hg hat
      rw [← Ny276.out] at ho
      have n0_ := Ax.mk (Kd.V_afterv (ok := (fun k_ => ((P0_1_ k_ ∨ P1_ k_) ∨ w.heap.size ≤ k_) ∧ some k_ ≠ (.slice Ao38 y273.length co38 : Value).ownBlock ∧ k_ ≠ gb262 ∧ k_ ≠ gb263 ∧ k_ ≠ gb264)) (by apply Kd.V_to; exact Kd.V_mono HO0_1.out (fun _ hk => ⟨⟨hk.1, ⟨hk.2.2.1, ⟨hk.2.2.2.1, ⟨hk.2.2.2.2.1, hk.2.2.2.2.2⟩⟩⟩⟩, hk.2.1⟩)) hg hat)
      have n1_ := Ax.mk (Kd.V_afterv (ok := (fun k_ => ((P0_1_ k_ ∨ P1_ k_) ∨ w.heap.size ≤ k_) ∧ some k_ ≠ (.slice Ao38 y273.length co38 : Value).ownBlock ∧ k_ ≠ gb262 ∧ k_ ≠ gb263 ∧ k_ ≠ gb264)) (by apply Kd.V_to; exact Kd.V_mono HO1.out (fun _ hk => ⟨⟨hk.1, ⟨hk.2.2.1, ⟨hk.2.2.2.1, ⟨hk.2.2.2.2.1, hk.2.2.2.2.2⟩⟩⟩⟩, hk.2.1⟩)) hg hat)
      have n2_ := Ax.mk (blk_grown (g := gb262) (o := .cells #[.int .u64 a0_0, .slice A0_1 l0_1.length c0_1, .string a0_2] 68 (0, 0)) (bT BK262.out) hg (Kd.N_ne HO272.out BK262.out (by decide)))
      have n3_ := Ax.mk (blk_grown (g := gb263) (o := .cells #[.int .u64 0, .slice none 0 0, .string (⟨#[]⟩ : ByteArray)] 68 (0, 0)) (bT BK263.out) hg (Kd.N_ne HO272.out BK263.out (by decide)))
      have n4_ := Ax.mk (blk_grown (g := gb264) (o := .cells #[.int .u64 (IntKind.u64.wrap (a0_0 + 1)), .slice A1 l1.length c1] 46 (0, 0)) (bT BK264.out) hg (Kd.N_away HO272.out (fun _ hk => hk.2.2.2.2)))
      have n5_ := Ax.mk (Kd.N_afterv (ok := (fun k_ => ((P0_1_ k_ ∨ P1_ k_) ∨ w.heap.size ≤ k_) ∧ k_ ≠ gb262 ∧ k_ ≠ gb263 ∧ k_ ≠ gb264)) (by apply Kd.N_to; exact Kd.N_mono HO275.out (fun _ hk => ⟨⟨hk.1, ⟨hk.2.2.1, ⟨hk.2.2.2.1, hk.2.2.2.2⟩⟩⟩, hk.2.1⟩)) hg hat)
      have n6_ := Ax.mk (hb)
      have n7_ := Ax.mk (ho)
      clear HO0_1
      clear HO1
      clear BK262
      clear BK263
      clear BK264
      clear HO275
      clear HB
      clear HO272
      have HO0_1 := n0_
      have HO1 := n1_
      have BK262 := n2_
      have BK263 := n3_
      have BK264 := n4_
      have HO275 := n5_
      have HB := n6_
      have HO278 := n7_
      clear n0_ n1_ n2_ n3_ n4_ n5_ n6_ n7_
      clear ho hb hg hat
      obtain ⟨Ao39, co39, eo39⟩ := Kd.N_slice HO278.out
      (first | subst eo39 | (injection eo39 with f1_ f2_ f3_; have f4_ := f1_.symm; have f5_ := f3_.symm; clear f1_ f2_ f3_; subst f4_; subst f5_))
      refine hK.out _ _ ⟨(bC BK262.out 0).trans rfl, (bC BK262.out 1).trans rfl, (bC BK262.out 2).trans rfl, (bC BK264.out 0).trans rfl, (bC BK264.out 1).trans rfl⟩ (fun hHeld => ?_)
      clear hK K
      refine norm_ (a' := ?_) ?_ ?_
      rotate_left
      ·show Act.put _ (some 36) _ = _
       simp only [Act.put, setIfInBounds_toArray, set_cons_zero, set_cons_succ, i64_w, i32_w]
       rfl
      refine pure_ (i := 14) (N := some 41) (v := ?_) (a' := ?_) #[true, true, true, true, true, true, true, true, true, true, true, true, true, true, true, false, false] rfl rfl (any_of HT_.out (by kernel_rfl)) (fun _ _ _ h => h) (Or.inl ⟨by rfl, ?_⟩) ?_ ?_
      rotate_left
      ·intro w'
       go_simp
       with_reducible rfl
      rotate_left
      ·simp only [Act.put, setIfInBounds_toArray, set_cons_zero, set_cons_succ, i64_w, i32_w]
       rfl
      refine one_ (i := 15) (N := none) #[true, true, true, true, true, true, true, true, true, true, true, true, true, true, true, true, false] rfl rfl (one_of HT_.out (by kernel_rfl)) (by decide) (fun K hK => ?_)
      have hs40 : w37.cell? ⟨gb263, 0, none⟩ = some (.int .u64 0) := (bC BK263.out 0).trans rfl
      have hfs40 := bF BK263.out 0
      have hns40_0 := NB262_263.out
      have hns40_2 := NB264_263.out
      have hms40_0 := NB263_262.out
      have hms40_2 := NB263_264.out
      have hs41 : w37.cell? ⟨gb263, 1, none⟩ = some (.slice none 0 0) := (bC BK263.out 1).trans rfl
      have hfs41 := bF BK263.out 1
      have hns41_0 := NB262_263.out
      have hns41_2 := NB264_263.out
      have hms41_0 := NB263_262.out
      have hms41_2 := NB263_264.out
      have hs42 : w37.cell? ⟨gb263, 2, none⟩ = some (.string (⟨#[]⟩ : ByteArray)) := (bC BK263.out 2).trans rfl
      have hfs42 := bF BK263.out 2
      have hns42_0 := NB262_263.out
      have hns42_2 := NB264_263.out
      have hms42_0 := NB263_262.out
      have hms42_2 := NB263_264.out
      refine skip_ (w1 := ?_) (by rfl) rfl ?_ ?_
      rotate_left
      ·go_simp
       rfl
      refine hK.out _ _ ⟨((cell_far (p := ⟨gb263, _, none⟩) NB262_263.out _).trans (((cell_far (p := ⟨gb263, _, none⟩) NB262_263.out _).trans (((cell_far (p := ⟨gb263, _, none⟩) NB262_263.out _).trans (hHeld.1)))))), ((cell_far (p := ⟨gb263, _, none⟩) NB262_263.out _).trans (((cell_far (p := ⟨gb263, _, none⟩) NB262_263.out _).trans (((cell_far (p := ⟨gb263, _, none⟩) NB262_263.out _).trans (hHeld.2.1)))))), ((cell_far (p := ⟨gb263, _, none⟩) NB262_263.out _).trans (((cell_far (p := ⟨gb263, _, none⟩) NB262_263.out _).trans (((cell_far (p := ⟨gb263, _, none⟩) NB262_263.out _).trans (hHeld.2.2.1)))))), ((cell_far (p := ⟨gb263, _, none⟩) NB264_263.out _).trans (((cell_far (p := ⟨gb263, _, none⟩) NB264_263.out _).trans (((cell_far (p := ⟨gb263, _, none⟩) NB264_263.out _).trans (hHeld.2.2.2.1)))))), ((cell_far (p := ⟨gb263, _, none⟩) NB264_263.out _).trans (((cell_far (p := ⟨gb263, _, none⟩) NB264_263.out _).trans (((cell_far (p := ⟨gb263, _, none⟩) NB264_263.out _).trans (hHeld.2.2.2.2))))))⟩ (fun hHeld => ?_)
      clear hK K
      refine pure_ (i := 16) (N := some 5) (v := ?_) (a' := ?_) #[true, true, true, true, true, true, true, true, true, true, true, true, true, true, true, true, true] rfl rfl (any_of HT_.out (by kernel_rfl)) (fun _ _ _ h => h) (Or.inl ⟨by rfl, ?_⟩) ?_ ?_
      rotate_left
      ·intro w'
       go_simp
       with_reducible rfl
      rotate_left
      ·simp only [Act.put, setIfInBounds_toArray, set_cons_zero, set_cons_succ, i64_w, i32_w]
       rfl
      refine done_ (done_of HT_.out (by kernel_rfl)) ?_
      try go_wp2
      refine bodyPost_ret (results_ct rfl _ _ gb263 68 #[.int .u64 (IntKind.u64.wrap (a0_0 + 1)), .slice Ao39 y276.length co39, .string (a0_2 ++ t265)] (0, 0) _ rfl (by refine bT ?_; refine bU (cs := #[.int .u64 (IntKind.u64.wrap (a0_0 + 1)), .slice Ao39 y276.length co39, .string (⟨#[]⟩ : ByteArray)]) ?_ 2 _ rfl; refine bT ?_; refine bU (cs := #[.int .u64 (IntKind.u64.wrap (a0_0 + 1)), .slice none 0 0, .string (⟨#[]⟩ : ByteArray)]) ?_ 1 _ rfl; refine bT ?_; refine bU (cs := #[.int .u64 0, .slice none 0 0, .string (⟨#[]⟩ : ByteArray)]) ?_ 0 _ rfl; exact bT BK263.out) Tryd.underlying68 rfl (by kernel_rfl)) rfl ?_
      exact ⟨_, by first | rfl | (simp [errW_none, errW_some] <;> rfl) | (simp [*, errW_none, errW_some] <;> rfl), by apply Kd.N_to; exact Kd.N_mono (Kd.N_far (p := ⟨gb263, 2, none⟩) (Kd.N_far (p := ⟨gb263, 1, none⟩) (Kd.N_far (p := ⟨gb263, 0, none⟩) (Kd.N_mono HO278.out (fun k_ hk => (⟨hk, hk.2.2.1⟩ : _ ∧ k_ ≠ gb263))) (fun _ hk => hk.2) (.int .u64 (IntKind.u64.wrap (a0_0 + 1)))) (fun _ hk => hk.2) (.slice Ao39 y276.length co39)) (fun _ hk => hk.2) (.string (a0_2 ++ t265))) (fun _ hk => hk.1.1), bA⟩
     ·rw [if_neg c19] at H
      exact absurd H (by simp)
    ·rw [if_neg c18] at H
     exact absurd H (by simp)
   ·rw [if_neg c17] at H
    exact absurd H (by simp)
 ·rw [if_neg c4] at H
  have c4b0 : (t266 == 0) = false := beq_eq_false_iff_ne.mpr c4
  have c4b1 : (t266 != 0) = true := bne_iff_ne.mpr c4
  simp only [Option.some.injEq, Prod.mk.injEq] at H
  obtain ⟨rfl, rfl, rfl, rfl⟩ := H
  go_enter Tryd.func61, Tryd.ntmps61
  go_wp2_with (first | ((with_reducible refine gate_dst (N := 2) rfl ?_); refine box_event ?hg (N := 2) ?hd (cs := #[.int .u64 a0_0, .slice A0_1 l0_1.length c0_1, .string a0_2]) (t := 68) ?hr ?_; (case hd => rfl); (case hg => rfl); (case hr => first | (go_simp; done) | (go_simp; rfl)); intro gb262 hg w43 hbox hb; have n0_ := Ax.mk (Kd.V_below (Kd.V_elderB (by exact Kd.V_to HO0_1.out) gb262 (Nat.le_of_eq hg.symm)) hb); have n1_ := Ax.mk (Kd.V_below (Kd.V_elderB (by exact Kd.V_to HO1.out) gb262 (Nat.le_of_eq hg.symm)) hb); have n2_ := Ax.mk (bP bA hb); have n3_ := Ax.mk (hbox); have n4_ := Ax.mk ((ge_new hg : w.heap.size ≤ gb262)); have n5_ := n4_; clear HO0_1; clear HO1; clear HB; have HO0_1 := n0_; have HO1 := n1_; have HB := n2_; have BK262 := n3_; have GW262 := n4_; have GE262 := n5_; clear n0_ n1_ n2_ n3_ n4_ n5_; clear hb hbox hg) | ((with_reducible refine gate_dst (N := 4) rfl ?_); refine box_event ?hg (N := 4) ?hd (cs := #[.int .u64 0, .slice none 0 0, .string (⟨#[]⟩ : ByteArray)]) (t := 68) ?hr ?_; (case hd => rfl); (case hg => rfl); (case hr => first | (go_simp; done) | (go_simp; rfl)); intro gb263 hg w44 hbox hb; have n0_ := Ax.mk (Kd.V_below (Kd.V_elderB (by exact Kd.V_to HO0_1.out) gb263 (Nat.le_of_eq hg.symm)) hb); have n1_ := Ax.mk (Kd.V_below (Kd.V_elderB (by exact Kd.V_to HO1.out) gb263 (Nat.le_of_eq hg.symm)) hb); have n2_ := Ax.mk (bB (bT BK262.out) hb); have n3_ := Ax.mk (bP bA hb); have n4_ := Ax.mk (hbox); have n5_ := Ax.mk ((ge_new hg : w.heap.size ≤ gb263)); have n6_ := n5_; have n7_ := Ax.mk ((ne_lt hg BK262.out : gb262 ≠ gb263)); have n8_ := Ax.mk ((ne_gt hg BK262.out : gb263 ≠ gb262)); clear HO0_1; clear HO1; clear BK262; clear HB; have HO0_1 := n0_; have HO1 := n1_; have BK262 := n2_; have HB := n3_; have BK263 := n4_; have GW263 := n5_; have GE263 := n6_; have NB262_263 := n7_; have NB263_262 := n8_; clear n0_ n1_ n2_ n3_ n4_ n5_ n6_ n7_ n8_; clear hb hbox hg; have hnb45 := NB262_263.out; have hnc45 := NB263_262.out; have hcz46_0 : w44.cell? ⟨gb262, 0, none⟩ = some (.int .u64 a0_0) := (bC BK262.out 0).trans rfl; have hcz46_1 : w44.cell? ⟨gb262, 1, none⟩ = some (.slice A0_1 l0_1.length c0_1) := (bC BK262.out 1).trans rfl; have hcz46_2 : w44.cell? ⟨gb262, 2, none⟩ = some (.string a0_2) := (bC BK262.out 2).trans rfl; have hfz46_0 := bF BK262.out 0; have hfz46_1 := bF BK262.out 1; have hfz46_2 := bF BK262.out 2) | ((with_reducible refine gate_dst (N := 6) rfl ?_); refine box_event ?hg (N := 6) ?hd (cs := #[.int .u64 0, .slice none 0 0]) (t := 46) ?hr ?_; (case hd => rfl); (case hg => rfl); (case hr => first | (go_simp; done) | (go_simp; rfl)); intro gb264 hg w47 hbox hb; have n0_ := Ax.mk (Kd.V_below (Kd.V_elderB (by exact Kd.V_to HO0_1.out) gb264 (Nat.le_of_eq hg.symm)) hb); have n1_ := Ax.mk (Kd.V_below (Kd.V_elderB (by exact Kd.V_to HO1.out) gb264 (Nat.le_of_eq hg.symm)) hb); have n2_ := Ax.mk (bB (bT BK262.out) hb); have n3_ := Ax.mk (bB (bT BK263.out) hb); have n4_ := Ax.mk (bP bA hb); have n5_ := Ax.mk (hbox); have n6_ := Ax.mk ((ge_new hg : w.heap.size ≤ gb264)); have n7_ := n6_; have n8_ := Ax.mk ((ne_lt hg BK262.out : gb262 ≠ gb264)); have n9_ := Ax.mk ((ne_gt hg BK262.out : gb264 ≠ gb262)); have n10_ := Ax.mk ((ne_lt hg BK263.out : gb263 ≠ gb264)); have n11_ := Ax.mk ((ne_gt hg BK263.out : gb264 ≠ gb263)); clear HO0_1; clear HO1; clear BK262; clear BK263; clear HB; have HO0_1 := n0_; have HO1 := n1_; have BK262 := n2_; have BK263 := n3_; have HB := n4_; have BK264 := n5_; have GW264 := n6_; have GE264 := n7_; have NB262_264 := n8_; have NB264_262 := n9_; have NB263_264 := n10_; have NB264_263 := n11_; clear n0_ n1_ n2_ n3_ n4_ n5_ n6_ n7_ n8_ n9_ n10_ n11_; clear hb hbox hg; have hnb48 := NB264_262.out; have hnc48 := NB262_264.out; have hnb49 := NB264_263.out; have hnc49 := NB263_264.out; have hcz50_0 : w47.cell? ⟨gb264, 0, none⟩ = some (.int .u64 0) := (bC BK264.out 0).trans rfl; have hcz50_1 : w47.cell? ⟨gb264, 1, none⟩ = some (.slice none 0 0) := (bC BK264.out 1).trans rfl; have hfz50_0 := bF BK264.out 0; have hfz50_1 := bF BK264.out 1) | ((with_reducible refine gate_callee (f := 65) rfl ?_); refine goesL_ (some 16) rfl rfl Tryd.func65 (by kernel_rfl) rfl #[.agg #[.int .u64 (IntKind.u64.wrap (a0_0 + 1)), .slice A1 l1.length c1]] rfl (by (try simp only [List.map_toArray, List.map_cons, List.map_nil]); first | done | rfl | (simp only [List.length_drop, List.length_take]; rfl) | (rw [wrap_sum2 (by assumption)]; rfl)) ?_; (with_reducible refine (r13_bytes.calls k (IntKind.u64.wrap (a0_0 + 1)) _ _ l1 t265 t266 _ ?side1 ?side2 A3.out).mono ?_); (case side1 => refine (Kd.V_reads' (e := 26) (base := w.heap.size) (ok := fun k_ => (((((P0_1_ k_ ∨ P1_ k_) ∨ w.heap.size ≤ k_) ∧ k_ ≠ gb262) ∧ k_ ≠ gb263) ∧ k_ ≠ gb264)) (n := l1.length) (c := c1) ?_).2.2; exact (by apply Kd.V_to; exact (Kd.V_mono (Kd.V_far (p := ⟨gb264, 1, none⟩) (Kd.V_far (p := ⟨gb264, 0, none⟩) (Kd.V_mono HO1.out (fun k_ hk => (⟨hk, hk.2⟩ : _ ∧ k_ ≠ gb264))) (fun _ hk => hk.2) (.int .u64 (IntKind.u64.wrap (a0_0 + 1)))) (fun _ hk => hk.2) (.slice A1 l1.length c1)) (fun _ h_ => h_.1)))); (case side2 => exact (Kd.V_reads' HO1.out).2.1); rintro e w51 ⟨rfl, hb⟩; refine ⟨_, rfl, ?_⟩; have n0_ := Ax.mk (Kd.V_below (by apply Kd.V_to; exact (Kd.V_mono (Kd.V_far (p := ⟨gb264, 1, none⟩) (Kd.V_far (p := ⟨gb264, 0, none⟩) (Kd.V_mono HO0_1.out (fun k_ hk => (⟨hk, hk.2⟩ : _ ∧ k_ ≠ gb264))) (fun _ hk => hk.2) (.int .u64 (IntKind.u64.wrap (a0_0 + 1)))) (fun _ hk => hk.2) (.slice A1 l1.length c1)) (fun _ h_ => h_.1))) hb); have n1_ := Ax.mk (Kd.V_below (by apply Kd.V_to; exact (Kd.V_mono (Kd.V_far (p := ⟨gb264, 1, none⟩) (Kd.V_far (p := ⟨gb264, 0, none⟩) (Kd.V_mono HO1.out (fun k_ hk => (⟨hk, hk.2⟩ : _ ∧ k_ ≠ gb264))) (fun _ hk => hk.2) (.int .u64 (IntKind.u64.wrap (a0_0 + 1)))) (fun _ hk => hk.2) (.slice A1 l1.length c1)) (fun _ h_ => h_.1))) hb); have n2_ := Ax.mk (bB (g := gb262) (o := .cells #[.int .u64 a0_0, .slice A0_1 l0_1.length c0_1, .string a0_2] 68 (0, 0)) (by refine bT ?_; refine bR ?_ NB262_264.out _; refine bT ?_; refine bR ?_ NB262_264.out _; exact bT BK262.out) hb); have n3_ := Ax.mk (bB (g := gb263) (o := .cells #[.int .u64 0, .slice none 0 0, .string (⟨#[]⟩ : ByteArray)] 68 (0, 0)) (by refine bT ?_; refine bR ?_ NB263_264.out _; refine bT ?_; refine bR ?_ NB263_264.out _; exact bT BK263.out) hb); have n4_ := Ax.mk (bB (g := gb264) (o := .cells #[.int .u64 (IntKind.u64.wrap (a0_0 + 1)), .slice A1 l1.length c1] 46 (0, 0)) (by refine bT ?_; refine bU (cs := #[.int .u64 (IntKind.u64.wrap (a0_0 + 1)), .slice none 0 0]) ?_ 1 _ rfl; refine bT ?_; refine bU (cs := #[.int .u64 0, .slice none 0 0]) ?_ 0 _ rfl; exact bT BK264.out) hb); have n5_ := Ax.mk (bP bA hb); clear HO0_1; clear HO1; clear BK262; clear BK263; clear BK264; clear HB; have HO0_1 := n0_; have HO1 := n1_; have BK262 := n2_; have BK263 := n3_; have BK264 := n4_; have HB := n5_; clear n0_ n1_ n2_ n3_ n4_ n5_; (try clear hb); (try clear hb2); (try clear hk); (try clear hi); have hcz52_0 : w51.cell? ⟨gb263, 0, none⟩ = some (.int .u64 0) := (bC BK263.out 0).trans rfl; have hcz52_1 : w51.cell? ⟨gb263, 1, none⟩ = some (.slice none 0 0) := (bC BK263.out 1).trans rfl; have hcz52_2 : w51.cell? ⟨gb263, 2, none⟩ = some (.string (⟨#[]⟩ : ByteArray)) := (bC BK263.out 2).trans rfl; have hfz52_0 := bF BK263.out 0; have hfz52_1 := bF BK263.out 1; have hfz52_2 := bF BK263.out 2))
  refine bodyPost_ret (results_ct rfl _ _ gb263 68 #[.int .u64 0, .slice none 0 0, .string (⟨#[]⟩ : ByteArray)] (0, 0) _ rfl (by refine bT ?_; refine bU (cs := #[.int .u64 0, .slice none 0 0, .string (⟨#[]⟩ : ByteArray)]) ?_ 2 _ rfl; refine bT ?_; refine bU (cs := #[.int .u64 0, .slice none 0 0, .string (⟨#[]⟩ : ByteArray)]) ?_ 1 _ rfl; refine bT ?_; refine bU (cs := #[.int .u64 0, .slice none 0 0, .string (⟨#[]⟩ : ByteArray)]) ?_ 0 _ rfl; exact bT BK263.out) Tryd.underlying68 rfl (by kernel_rfl)) rfl ?_
  exact ⟨_, by first | rfl | (simp [errW_none, errW_some] <;> rfl) | (simp [*, errW_none, errW_some] <;> rfl), by first | exact Kd.S_nil _ _ _ _ _ | exact Kd.N_nil _ _ _ _ _ | exact Kd.V_nil _ _ _ _ _ | exact Kd.Q_nil _ _ _ _ _ | exact Kd.R_nil _ _ _ _ _, bA⟩
end Go.Proofs.YtboommbclbjlnaaDoor.Fn
end
section
namespace Go.Proofs.YtboommbclbjlnaaDoor.Fn
open Go.RowKit Go.Proofs.YtboommbclbjlnaaDoorW.PrintWords Go.Proofs.YtboommbclbjlnaaDoorW.PrintLast Go.Proofs.YtboommbclbjlnaaDoorW.PrintMore Go.Proofs.YtboommbclbjlnaaDoor.Lf
attribute [local go_sem] max2_int min2_int max_two min_two max_three min_three max_four min_four   -- for this text's walks alone
set_option linter.unusedVariables false
set_option linter.unusedSimpArgs false
def r13_New.f (k : Nat) (a0 : Int) (l1 : List (S26)) : Option (Int × (List (S46)) × ByteArray × Int) := (r13_bytes.f k a0 l1).bind fun bt257 => (if bt257.2 = 0 then (some (a0, (([(⟨a0, l1⟩ : S46)] : List (S46))), bt257.1, 0)) else (some (0, ([] : List (S46)), (⟨#[]⟩ : ByteArray), bt257.2)))
theorem r13_New.mono : ∀ a0 a1 k, LeO (r13_New.f k a0 a1) (r13_New.f (k + 1) a0 a1) := by
 intro a0 a1 k
 unfold r13_New.f
 repeat' first
   | (with_reducible exact r13_bytes.mono _ _ _)
   | (with_reducible exact LeO.refl _)
   | (with_reducible exact LeO.none _)
   | (with_reducible refine LeO.ite ?_ ?_)
   | (with_reducible refine LeO.bind ?_ (fun _ => ?_))
   | exact r13_bytes.mono _ _ _
   | exact LeO.none _
   | refine LeO.ite ?_ ?_
   | refine LeO.bind ?_ (fun _ => ?_)
set_option maxHeartbeats 8000000 in
set_option maxRecDepth 100000 in
theorem r13_New.calls (k : Nat) (a0 : Int) (P1_ : Nat → Prop) (A1 : Option Addr) (c1 : Nat) (l1 : List (S26)) (r1 : Int) (r2 : List (S46)) (r3 : ByteArray) (r4 : Int) (w : World) (hs1 : Kd.V k26 26 w w.heap.size (fun k_ => P1_ k_) (.slice A1 l1.length c1) l1) (h : r13_New.f k a0 l1 = some (r1, r2, r3, r4)) :
  Calls Tryd.prog 60 #[.int .u64 a0, .slice A1 l1.length c1] w fun e w' => ∃ v1_ : Value, e = .returned (.tuple #[.agg #[.int .u64 r1, v1_, .string r3], .int .i64 r4]) ∧ Kd.N k46 46 w' w.heap.size (fun k_ => (P1_ k_ ∨ w.heap.size ≤ k_)) v1_ r2 ∧ Below w.heap.size w w' := by
 have hu68 := Tryd.underlying68
 have hu46 := Tryd.underlying46
 have HO1 := Ax.mk (show Kd.V k26 26 w w.heap.size (fun k_ => (P1_ k_ ∨ w.heap.size ≤ k_)) (.slice A1 l1.length c1) l1 from Kd.V_mono hs1 (fun k_ hk => .inl hk))
 have HB := Ax.mk (Below.refl w.heap.size w)
 have H : ((r13_bytes.f k a0 l1).bind fun bt257 => (if bt257.2 = 0 then (some (a0, (([(⟨a0, l1⟩ : S46)] : List (S46))), bt257.1, 0)) else (some (0, ([] : List (S46)), (⟨#[]⟩ : ByteArray), bt257.2)))) = some (r1, r2, r3, r4) := h
 clear h
 replace H := Option.bind_eq_some_iff.mp H
 obtain ⟨⟨t257, t258⟩, A30, H⟩ := H
 replace H : (if t258 = 0 then (some (a0, (([(⟨a0, l1⟩ : S46)] : List (S46))), t257, 0)) else (some (0, ([] : List (S46)), (⟨#[]⟩ : ByteArray), t258))) = some (r1, r2, r3, r4) := H
 have A3 := Ax.mk A30
 clear A30
 by_cases c4 : t258 = 0
 ·rw [if_pos c4] at H
  have c4b0 : (t258 == 0) = true := beq_iff_eq.mpr c4
  have c4b1 : (t258 != 0) = false := bne_eq_false_iff_eq.mpr c4
  clear c4
  obtain ⟨y259, hy259⟩ : ∃ y_ : List (S46), y_ = (([(⟨a0, l1⟩ : S46)] : List (S46))) := ⟨_, rfl⟩
  replace H : (some (a0, y259, t257, 0)) = some (r1, r2, r3, r4) := by first | (rw [hy259]; with_reducible exact H) | (have H2_ := (Option.bind_some _ _).symm.trans H; rw [hy259]; with_reducible exact H2_) | (have H2_ := (Option.bind_some _ _).symm.trans H; with_reducible exact H2_) | with_reducible exact H | (rw [hy259]; exact H) | exact H
  have Ny259 := Ax.mk hy259
  clear hy259
  simp only [Option.some.injEq, Prod.mk.injEq] at H
  obtain ⟨rfl, rfl, rfl, rfl⟩ := H
  go_enter Tryd.func60, Tryd.ntmps60
  go_wp2_with (first | ((with_reducible refine gate_dst (N := 4) rfl ?_); refine box_event ?hg (N := 4) ?hd (cs := #[.int .u64 0, .slice none 0 0, .string (⟨#[]⟩ : ByteArray)]) (t := 68) ?hr ?_; (case hd => rfl); (case hg => rfl); (case hr => first | (go_simp; done) | (go_simp; rfl)); intro gb255 hg w5 hbox hb; have n0_ := Ax.mk (Kd.V_below (Kd.V_elderB (by exact Kd.V_to HO1.out) gb255 (Nat.le_of_eq hg.symm)) hb); have n1_ := Ax.mk (bP bA hb); have n2_ := Ax.mk (hbox); have n3_ := Ax.mk ((ge_new hg : w.heap.size ≤ gb255)); have n4_ := n3_; clear HO1; clear HB; have HO1 := n0_; have HB := n1_; have BK255 := n2_; have GW255 := n3_; have GE255 := n4_; clear n0_ n1_ n2_ n3_ n4_; clear hb hbox hg) | ((with_reducible refine gate_dst (N := 6) rfl ?_); refine box_event ?hg (N := 6) ?hd (cs := #[.int .u64 0, .slice none 0 0]) (t := 46) ?hr ?_; (case hd => rfl); (case hg => rfl); (case hr => first | (go_simp; done) | (go_simp; rfl)); intro gb256 hg w6 hbox hb; have n0_ := Ax.mk (Kd.V_below (Kd.V_elderB (by exact Kd.V_to HO1.out) gb256 (Nat.le_of_eq hg.symm)) hb); have n1_ := Ax.mk (bB (bT BK255.out) hb); have n2_ := Ax.mk (bP bA hb); have n3_ := Ax.mk (hbox); have n4_ := Ax.mk ((ge_new hg : w.heap.size ≤ gb256)); have n5_ := n4_; have n6_ := Ax.mk ((ne_lt hg BK255.out : gb255 ≠ gb256)); have n7_ := Ax.mk ((ne_gt hg BK255.out : gb256 ≠ gb255)); clear HO1; clear BK255; clear HB; have HO1 := n0_; have BK255 := n1_; have HB := n2_; have BK256 := n3_; have GW256 := n4_; have GE256 := n5_; have NB255_256 := n6_; have NB256_255 := n7_; clear n0_ n1_ n2_ n3_ n4_ n5_ n6_ n7_; clear hb hbox hg; have hnb7 := NB256_255.out; have hnc7 := NB255_256.out; have hcz8_0 : w6.cell? ⟨gb256, 0, none⟩ = some (.int .u64 0) := (bC BK256.out 0).trans rfl; have hcz8_1 : w6.cell? ⟨gb256, 1, none⟩ = some (.slice none 0 0) := (bC BK256.out 1).trans rfl; have hfz8_0 := bF BK256.out 0; have hfz8_1 := bF BK256.out 1) | ((with_reducible refine gate_callee (f := 65) rfl ?_); refine goesL_ (some 14) rfl rfl Tryd.func65 (by kernel_rfl) rfl #[.agg #[.int .u64 a0, .slice A1 l1.length c1]] rfl (by (try simp only [List.map_toArray, List.map_cons, List.map_nil]); first | done | rfl | (simp only [List.length_drop, List.length_take]; rfl) | (rw [wrap_sum2 (by assumption)]; rfl)) ?_; (with_reducible refine (r13_bytes.calls k a0 _ _ l1 t257 t258 _ ?side1 ?side2 A3.out).mono ?_); (case side1 => refine (Kd.V_reads' (e := 26) (base := w.heap.size) (ok := fun k_ => (((P1_ k_ ∨ w.heap.size ≤ k_) ∧ k_ ≠ gb255) ∧ k_ ≠ gb256)) (n := l1.length) (c := c1) ?_).2.2; exact (by apply Kd.V_to; exact (Kd.V_mono (Kd.V_far (p := ⟨gb256, 1, none⟩) (Kd.V_far (p := ⟨gb256, 0, none⟩) (Kd.V_mono HO1.out (fun k_ hk => (⟨hk, hk.2⟩ : _ ∧ k_ ≠ gb256))) (fun _ hk => hk.2) (.int .u64 a0)) (fun _ hk => hk.2) (.slice A1 l1.length c1)) (fun _ h_ => h_.1)))); (case side2 => exact (Kd.V_reads' HO1.out).2.1); rintro e w9 ⟨rfl, hb⟩; refine ⟨_, rfl, ?_⟩; have n0_ := Ax.mk (Kd.V_below (by apply Kd.V_to; exact (Kd.V_mono (Kd.V_far (p := ⟨gb256, 1, none⟩) (Kd.V_far (p := ⟨gb256, 0, none⟩) (Kd.V_mono HO1.out (fun k_ hk => (⟨hk, hk.2⟩ : _ ∧ k_ ≠ gb256))) (fun _ hk => hk.2) (.int .u64 a0)) (fun _ hk => hk.2) (.slice A1 l1.length c1)) (fun _ h_ => h_.1))) hb); have n1_ := Ax.mk (bB (g := gb255) (o := .cells #[.int .u64 0, .slice none 0 0, .string (⟨#[]⟩ : ByteArray)] 68 (0, 0)) (by refine bT ?_; refine bR ?_ NB255_256.out _; refine bT ?_; refine bR ?_ NB255_256.out _; exact bT BK255.out) hb); have n2_ := Ax.mk (bB (g := gb256) (o := .cells #[.int .u64 a0, .slice A1 l1.length c1] 46 (0, 0)) (by refine bT ?_; refine bU (cs := #[.int .u64 a0, .slice none 0 0]) ?_ 1 _ rfl; refine bT ?_; refine bU (cs := #[.int .u64 0, .slice none 0 0]) ?_ 0 _ rfl; exact bT BK256.out) hb); have n3_ := Ax.mk (bP bA hb); clear HO1; clear BK255; clear BK256; clear HB; have HO1 := n0_; have BK255 := n1_; have BK256 := n2_; have HB := n3_; clear n0_ n1_ n2_ n3_; (try clear hb); (try clear hb2); (try clear hk); (try clear hi); have hcz10_0 : w9.cell? ⟨gb256, 0, none⟩ = some (.int .u64 a0) := (bC BK256.out 0).trans rfl; have hcz10_1 : w9.cell? ⟨gb256, 1, none⟩ = some (.slice A1 l1.length c1) := (bC BK256.out 1).trans rfl; have hfz10_0 := bF BK256.out 0; have hfz10_1 := bF BK256.out 1) | ((with_reducible refine gate_dst (N := 23) rfl ?_); refine Kd.N_lit k46 _ 46 ?hg (N' := 23) ?hd (xs := ([(⟨a0, l1⟩ : S46)] : List (S46))) (inner := [.int .u64 a0, .slice A1 l1.length c1]) (ok := (fun k_ => (P1_ k_ ∨ w.heap.size ≤ k_) ∧ k_ ≠ gb255 ∧ k_ ≠ gb256)) (okp := (fun k_ => (P1_ k_ ∨ w.heap.size ≤ k_) ∧ k_ ≠ gb255 ∧ k_ ≠ gb256)) ?hr ?hp (fun _ hk => hk) ((show ∀ k_, w9.heap.size ≤ k_ → (fun k_ => (P1_ k_ ∨ w.heap.size ≤ k_) ∧ k_ ≠ gb255 ∧ k_ ≠ gb256) k_ from fun k_ hk => ⟨(.inr (Nat.le_trans (bS bA) hk)), Kd.freshB (g := gb255) (o := .cells #[.int .u64 0, .slice none 0 0, .string (⟨#[]⟩ : ByteArray)] 68 (0, 0)) (bT BK255.out) k_ hk, Kd.freshB (g := gb256) (o := .cells #[.int .u64 a0, .slice A1 l1.length c1] 46 (0, 0)) (bT BK256.out) k_ hk⟩) _ (Nat.le_refl _)) (Below.refl _ _) (Nat.le_refl _) (by simp) ?_; (case hd => rfl); (case hg => rfl); (case hr => first | (go_simp; done) | (go_simp; rfl)); (case hp => exact (Reps.c2 (show Kd.FK k46 _ _ (⟨a0, l1⟩ : S46) [.int .u64 a0, .slice A1 l1.length c1] from (k46_mkF _ _ (⟨a0, l1⟩ : S46) (Kd.V_reads' (Kd.V_mono (ok' := (fun k_ => (P1_ k_ ∨ w.heap.size ≤ k_) ∧ k_ ≠ gb255 ∧ k_ ≠ gb256)) (HO1.out) (fun k_ hk => ⟨hk.1.1, ⟨hk.1.2, hk.2⟩⟩))).2.1 (Kd.V_F (Kd.V_mono (ok' := (fun k_ => (P1_ k_ ∨ w.heap.size ≤ k_) ∧ k_ ≠ gb255 ∧ k_ ≠ gb256)) (HO1.out) (fun k_ hk => ⟨hk.1.1, ⟨hk.1.2, hk.2⟩⟩))))) (Reps.none _ _))); intro v260 w11 ho12 hb hg_ hnew_; clear hg_ hnew_; (first | rw [← Ny259.out] at ho12 | (simp only [Int.reduceToNat] at ho12; rw [← Ny259.out] at ho12)); have n0_ := Ax.mk (Kd.V_elder' (by exact Kd.V_to HO1.out) (Kd.N_base ho12) hb); have n1_ := Ax.mk (Kd.N_lower ho12 (bS bA)); have n2_ := Ax.mk (bB (bT BK255.out) hb); have n3_ := Ax.mk (bB (bT BK256.out) hb); have n4_ := Ax.mk (bP bA hb); clear HO1; clear BK255; clear BK256; clear HB; have HO1 := n0_; have HO261 := n1_; have BK255 := n2_; have BK256 := n3_; have HB := n4_; clear n0_ n1_ n2_ n3_ n4_; clear hb ho12; obtain ⟨Ao13, co13, eo13⟩ := Kd.N_slice HO261.out; subst eo13; have hcz14_0 : w11.cell? ⟨gb255, 0, none⟩ = some (.int .u64 0) := (bC BK255.out 0).trans rfl; have hcz14_1 : w11.cell? ⟨gb255, 1, none⟩ = some (.slice none 0 0) := (bC BK255.out 1).trans rfl; have hcz14_2 : w11.cell? ⟨gb255, 2, none⟩ = some (.string (⟨#[]⟩ : ByteArray)) := (bC BK255.out 2).trans rfl; have hfz14_0 := bF BK255.out 0; have hfz14_1 := bF BK255.out 1; have hfz14_2 := bF BK255.out 2))
  refine bodyPost_ret (results_ct rfl _ _ gb255 68 #[.int .u64 a0, .slice Ao13 y259.length co13, .string t257] (0, 0) _ rfl (by refine bT ?_; refine bU (cs := #[.int .u64 a0, .slice Ao13 y259.length co13, .string (⟨#[]⟩ : ByteArray)]) ?_ 2 _ rfl; refine bT ?_; refine bU (cs := #[.int .u64 a0, .slice none 0 0, .string (⟨#[]⟩ : ByteArray)]) ?_ 1 _ rfl; refine bT ?_; refine bU (cs := #[.int .u64 0, .slice none 0 0, .string (⟨#[]⟩ : ByteArray)]) ?_ 0 _ rfl; exact bT BK255.out) Tryd.underlying68 rfl (by kernel_rfl)) rfl ?_
  exact ⟨_, by first | rfl | (simp [errW_none, errW_some] <;> rfl) | (simp [*, errW_none, errW_some] <;> rfl), by apply Kd.N_to; exact Kd.N_mono (Kd.N_far (p := ⟨gb255, 2, none⟩) (Kd.N_far (p := ⟨gb255, 1, none⟩) (Kd.N_far (p := ⟨gb255, 0, none⟩) (Kd.N_mono HO261.out (fun k_ hk => (⟨hk, hk.2.1⟩ : _ ∧ k_ ≠ gb255))) (fun _ hk => hk.2) (.int .u64 a0)) (fun _ hk => hk.2) (.slice Ao13 y259.length co13)) (fun _ hk => hk.2) (.string t257)) (fun _ hk => hk.1.1), bA⟩
 ·rw [if_neg c4] at H
  have c4b0 : (t258 == 0) = false := beq_eq_false_iff_ne.mpr c4
  have c4b1 : (t258 != 0) = true := bne_iff_ne.mpr c4
  simp only [Option.some.injEq, Prod.mk.injEq] at H
  obtain ⟨rfl, rfl, rfl, rfl⟩ := H
  go_enter Tryd.func60, Tryd.ntmps60
  go_wp2_with (first | ((with_reducible refine gate_dst (N := 4) rfl ?_); refine box_event ?hg (N := 4) ?hd (cs := #[.int .u64 0, .slice none 0 0, .string (⟨#[]⟩ : ByteArray)]) (t := 68) ?hr ?_; (case hd => rfl); (case hg => rfl); (case hr => first | (go_simp; done) | (go_simp; rfl)); intro gb255 hg w15 hbox hb; have n0_ := Ax.mk (Kd.V_below (Kd.V_elderB (by exact Kd.V_to HO1.out) gb255 (Nat.le_of_eq hg.symm)) hb); have n1_ := Ax.mk (bP bA hb); have n2_ := Ax.mk (hbox); have n3_ := Ax.mk ((ge_new hg : w.heap.size ≤ gb255)); have n4_ := n3_; clear HO1; clear HB; have HO1 := n0_; have HB := n1_; have BK255 := n2_; have GW255 := n3_; have GE255 := n4_; clear n0_ n1_ n2_ n3_ n4_; clear hb hbox hg) | ((with_reducible refine gate_dst (N := 6) rfl ?_); refine box_event ?hg (N := 6) ?hd (cs := #[.int .u64 0, .slice none 0 0]) (t := 46) ?hr ?_; (case hd => rfl); (case hg => rfl); (case hr => first | (go_simp; done) | (go_simp; rfl)); intro gb256 hg w16 hbox hb; have n0_ := Ax.mk (Kd.V_below (Kd.V_elderB (by exact Kd.V_to HO1.out) gb256 (Nat.le_of_eq hg.symm)) hb); have n1_ := Ax.mk (bB (bT BK255.out) hb); have n2_ := Ax.mk (bP bA hb); have n3_ := Ax.mk (hbox); have n4_ := Ax.mk ((ge_new hg : w.heap.size ≤ gb256)); have n5_ := n4_; have n6_ := Ax.mk ((ne_lt hg BK255.out : gb255 ≠ gb256)); have n7_ := Ax.mk ((ne_gt hg BK255.out : gb256 ≠ gb255)); clear HO1; clear BK255; clear HB; have HO1 := n0_; have BK255 := n1_; have HB := n2_; have BK256 := n3_; have GW256 := n4_; have GE256 := n5_; have NB255_256 := n6_; have NB256_255 := n7_; clear n0_ n1_ n2_ n3_ n4_ n5_ n6_ n7_; clear hb hbox hg; have hnb17 := NB256_255.out; have hnc17 := NB255_256.out; have hcz18_0 : w16.cell? ⟨gb256, 0, none⟩ = some (.int .u64 0) := (bC BK256.out 0).trans rfl; have hcz18_1 : w16.cell? ⟨gb256, 1, none⟩ = some (.slice none 0 0) := (bC BK256.out 1).trans rfl; have hfz18_0 := bF BK256.out 0; have hfz18_1 := bF BK256.out 1) | ((with_reducible refine gate_callee (f := 65) rfl ?_); refine goesL_ (some 14) rfl rfl Tryd.func65 (by kernel_rfl) rfl #[.agg #[.int .u64 a0, .slice A1 l1.length c1]] rfl (by (try simp only [List.map_toArray, List.map_cons, List.map_nil]); first | done | rfl | (simp only [List.length_drop, List.length_take]; rfl) | (rw [wrap_sum2 (by assumption)]; rfl)) ?_; (with_reducible refine (r13_bytes.calls k a0 _ _ l1 t257 t258 _ ?side1 ?side2 A3.out).mono ?_); (case side1 => refine (Kd.V_reads' (e := 26) (base := w.heap.size) (ok := fun k_ => (((P1_ k_ ∨ w.heap.size ≤ k_) ∧ k_ ≠ gb255) ∧ k_ ≠ gb256)) (n := l1.length) (c := c1) ?_).2.2; exact (by apply Kd.V_to; exact (Kd.V_mono (Kd.V_far (p := ⟨gb256, 1, none⟩) (Kd.V_far (p := ⟨gb256, 0, none⟩) (Kd.V_mono HO1.out (fun k_ hk => (⟨hk, hk.2⟩ : _ ∧ k_ ≠ gb256))) (fun _ hk => hk.2) (.int .u64 a0)) (fun _ hk => hk.2) (.slice A1 l1.length c1)) (fun _ h_ => h_.1)))); (case side2 => exact (Kd.V_reads' HO1.out).2.1); rintro e w19 ⟨rfl, hb⟩; refine ⟨_, rfl, ?_⟩; have n0_ := Ax.mk (Kd.V_below (by apply Kd.V_to; exact (Kd.V_mono (Kd.V_far (p := ⟨gb256, 1, none⟩) (Kd.V_far (p := ⟨gb256, 0, none⟩) (Kd.V_mono HO1.out (fun k_ hk => (⟨hk, hk.2⟩ : _ ∧ k_ ≠ gb256))) (fun _ hk => hk.2) (.int .u64 a0)) (fun _ hk => hk.2) (.slice A1 l1.length c1)) (fun _ h_ => h_.1))) hb); have n1_ := Ax.mk (bB (g := gb255) (o := .cells #[.int .u64 0, .slice none 0 0, .string (⟨#[]⟩ : ByteArray)] 68 (0, 0)) (by refine bT ?_; refine bR ?_ NB255_256.out _; refine bT ?_; refine bR ?_ NB255_256.out _; exact bT BK255.out) hb); have n2_ := Ax.mk (bB (g := gb256) (o := .cells #[.int .u64 a0, .slice A1 l1.length c1] 46 (0, 0)) (by refine bT ?_; refine bU (cs := #[.int .u64 a0, .slice none 0 0]) ?_ 1 _ rfl; refine bT ?_; refine bU (cs := #[.int .u64 0, .slice none 0 0]) ?_ 0 _ rfl; exact bT BK256.out) hb); have n3_ := Ax.mk (bP bA hb); clear HO1; clear BK255; clear BK256; clear HB; have HO1 := n0_; have BK255 := n1_; have BK256 := n2_; have HB := n3_; clear n0_ n1_ n2_ n3_; (try clear hb); (try clear hb2); (try clear hk); (try clear hi); have hcz20_0 : w19.cell? ⟨gb255, 0, none⟩ = some (.int .u64 0) := (bC BK255.out 0).trans rfl; have hcz20_1 : w19.cell? ⟨gb255, 1, none⟩ = some (.slice none 0 0) := (bC BK255.out 1).trans rfl; have hcz20_2 : w19.cell? ⟨gb255, 2, none⟩ = some (.string (⟨#[]⟩ : ByteArray)) := (bC BK255.out 2).trans rfl; have hfz20_0 := bF BK255.out 0; have hfz20_1 := bF BK255.out 1; have hfz20_2 := bF BK255.out 2))
  refine bodyPost_ret (results_ct rfl _ _ gb255 68 #[.int .u64 0, .slice none 0 0, .string (⟨#[]⟩ : ByteArray)] (0, 0) _ rfl (by refine bT ?_; refine bU (cs := #[.int .u64 0, .slice none 0 0, .string (⟨#[]⟩ : ByteArray)]) ?_ 2 _ rfl; refine bT ?_; refine bU (cs := #[.int .u64 0, .slice none 0 0, .string (⟨#[]⟩ : ByteArray)]) ?_ 1 _ rfl; refine bT ?_; refine bU (cs := #[.int .u64 0, .slice none 0 0, .string (⟨#[]⟩ : ByteArray)]) ?_ 0 _ rfl; exact bT BK255.out) Tryd.underlying68 rfl (by kernel_rfl)) rfl ?_
  exact ⟨_, by first | rfl | (simp [errW_none, errW_some] <;> rfl) | (simp [*, errW_none, errW_some] <;> rfl), by first | exact Kd.S_nil _ _ _ _ _ | exact Kd.N_nil _ _ _ _ _ | exact Kd.V_nil _ _ _ _ _ | exact Kd.Q_nil _ _ _ _ _ | exact Kd.R_nil _ _ _ _ _, bA⟩
def journal_After.l0 : Nat → Int → List (S24) → List (S44) → Int → Int → Option ((List (S24)))
 | 0, _, _, _, _, _ => none
 | k + 1, x1, x5, x9, x10, x11 => if x11 < x10 then (if 0 ≤ x11 then (if x11 < (x9.length : Int) then (if ((rd_T44 x9 x11).f0) > x1 then (if x5.length + ((rd_T44 x9 x11).f1).length < 2932031007402 then (journal_After.l0 k x1 (x5 ++ ((rd_T44 x9 x11).f1)) x9 x10 (wrap64 (x11 + 1))) else (none)) else (journal_After.l0 k x1 x5 x9 x10 (wrap64 (x11 + 1)))) else (none)) else (none)) else (some x5)
def journal_After.f (k : Nat) (a0_0 : Int) (l0_1 : List (S44)) (a0_2 : ByteArray) (a1 : Int) : Option ((List (S24))) := journal_After.l0 k a1 ([] : List (S24)) l0_1 (l0_1.length : Int) 0
theorem journal_After.mono_l : ∀ k, (∀ y0 y1 y2 y3 y4, LeO (journal_After.l0 k y0 y1 y2 y3 y4) (journal_After.l0 (k + 1) y0 y1 y2 y3 y4))
 | 0 => fun _ _ _ _ _ r h => by simp [journal_After.l0] at h
 | k + 1 => by
  have ih0 := journal_After.mono_l k
  ·intro y0 y1 y2 y3 y4
   unfold journal_After.l0
   repeat' first
   | (with_reducible exact ih0 _ _ _ _ _)
   | (with_reducible exact LeO.refl _)
   | (with_reducible exact LeO.none _)
   | (with_reducible refine LeO.ite ?_ ?_)
   | (with_reducible refine LeO.bind ?_ (fun _ => ?_))
   | exact ih0 _ _ _ _ _
   | exact LeO.none _
   | refine LeO.ite ?_ ?_
   | refine LeO.bind ?_ (fun _ => ?_)
theorem journal_After.mono : ∀ a0 a1 a2 a3 k, LeO (journal_After.f k a0 a1 a2 a3) (journal_After.f (k + 1) a0 a1 a2 a3) := by
 intro a0 a1 a2 a3 k
 have ih0 := journal_After.mono_l k
 unfold journal_After.f
 repeat' first
   | (with_reducible exact ih0 _ _ _ _ _)
   | (with_reducible exact LeO.refl _)
   | (with_reducible exact LeO.none _)
   | (with_reducible refine LeO.ite ?_ ?_)
   | (with_reducible refine LeO.bind ?_ (fun _ => ?_))
   | exact ih0 _ _ _ _ _
   | exact LeO.none _
   | refine LeO.ite ?_ ?_
   | refine LeO.bind ?_ (fun _ => ?_)
set_option maxHeartbeats 8000000 in
set_option maxRecDepth 100000 in
theorem journal_After.calls (k : Nat) (a0_0 : Int) (A0_1 : Option Addr) (c0_1 : Nat) (l0_1 : List (S44)) (a0_2 : ByteArray) (a1 : Int) (r : List (S24)) (w : World) (hr0_1 : Kd.C k44 w A0_1 l0_1.length l0_1) (hc0_1 : l0_1.length ≤ c0_1) (h : journal_After.f k a0_0 l0_1 a0_2 a1 = some r) :
  Calls Tryd.prog 36 #[.agg #[.int .u64 a0_0, .slice A0_1 l0_1.length c0_1, .string a0_2], .int .u64 a1] w fun e w' => ∃ v0_ : Value, e = .returned (v0_) ∧ Kd.R k24 24 w' w.heap.size (fun _ => True) v0_ r ∧ Below w.heap.size w w' := by
 have hu66 := Tryd.underlying66
 have hu44 := Tryd.underlying44
 have HR0_1 := Ax.mk hr0_1
 have HC0_1 := Ax.mk hc0_1
 clear hr0_1 hc0_1
 have HB := Ax.mk (Below.refl w.heap.size w)
 have H : (journal_After.l0 k a1 ([] : List (S24)) l0_1 (l0_1.length : Int) 0) = some r := h
 clear h
 have H' := Ax.mk H
 clear H
 go_enter Tryd.func36, Tryd.ntmps36
 go_wp2_with (first | ((with_reducible refine gate_dst (N := 2) rfl ?_); refine box_event ?hg (N := 2) ?hd (cs := #[.int .u64 a0_0, .slice A0_1 l0_1.length c0_1, .string a0_2]) (t := 66) ?hr ?_; (case hd => rfl); (case hg => rfl); (case hr => first | (go_simp; done) | (go_simp; rfl)); intro gb101 hg w3 hbox hb; have n0_ := Ax.mk (bP bA hb); have n1_ := Ax.mk (hbox); have n2_ := Ax.mk ((ge_new hg : w.heap.size ≤ gb101)); have n3_ := n2_; clear HB; have HB := n0_; have BK101 := n1_; have GW101 := n2_; have GE101 := n3_; clear n0_ n1_ n2_ n3_; clear hb hbox hg; have hcz4_0 : w3.cell? ⟨gb101, 0, none⟩ = some (.int .u64 a0_0) := (bC BK101.out 0).trans rfl; have hcz4_1 : w3.cell? ⟨gb101, 1, none⟩ = some (.slice A0_1 l0_1.length c0_1) := (bC BK101.out 1).trans rfl; have hcz4_2 : w3.cell? ⟨gb101, 2, none⟩ = some (.string a0_2) := (bC BK101.out 2).trans rfl; have hfz4_0 := bF BK101.out 0; have hfz4_1 := bF BK101.out 1; have hfz4_2 := bF BK101.out 2))
 go_loopg [5, 11] k (fun kq v5 v11 w' => ∃ (x5_1 : List (S24)) (x11_1 : Int), v11 = .int .i64 x11_1 ∧ Ax (journal_After.l0 kq a1 x5_1 l0_1 (l0_1.length : Int) x11_1 = some r) ∧ Ax (kq ≤ k) ∧ Ax (Kd.R k24 24 w' w.heap.size (fun _ => True) v5 x5_1) ∧ Ax (w'.heap[gb101]? = some (.cells #[.int .u64 a0_0, (.slice A0_1 l0_1.length c0_1), .string a0_2] 66 (0, 0))) ∧ Ax (Below w.heap.size w w'))
 case atStart => exact ⟨(([] : List (S24))), (0), (by first | rfl | (simp; done) | (simp [*]; done)), H', ⟨Nat.le_refl _⟩, ⟨by first | exact Kd.R_nil _ _ _ _ _ | exact Kd.N_nil _ _ _ _ _ | exact Kd.V_nil _ _ _ _ _ | exact Kd.Q_nil _ _ _ _ _ | exact Kd.S_nil _ _ _ _ _⟩, ⟨by refine bT ?_; exact BK101.out⟩, ⟨bA⟩⟩
 case round =>
  clear H'
  try clear p2
  try clear c3
  try clear hcz4_0
  try clear hcz4_1
  try clear hcz4_2
  try clear hfz4_0
  try clear hfz4_1
  try clear hfz4_2
  obtain ⟨x5_1, x11_1, rfl, HA, HK1, HO_5, BK101, HB⟩ := hrel
  cases gk with
  | zero => exact absurd HA.out (by simp [journal_After.l0])
  | succ k1 =>
   have H := HA.out
   clear HA
   simp only [journal_After.l0] at H
   by_cases c5 : x11_1 < (l0_1.length : Int)
   ·rw [if_pos c5] at H
    have c5b0 : decide (x11_1 < (l0_1.length : Int)) = true := decide_eq_true c5
    clear c5
    by_cases c6 : 0 ≤ x11_1
    ·rw [if_pos c6] at H
     have c6b0 : decide (0 ≤ x11_1) = true := decide_eq_true c6
     clear c6
     by_cases c7 : x11_1 < (l0_1.length : Int)
     ·rw [if_pos c7] at H
      have c7b0 : decide (x11_1 < (l0_1.length : Int)) = true := decide_eq_true c7
      clear c7
      by_cases c8 : ((rd_T44 l0_1 x11_1).f0) > a1
      ·rw [if_pos c8] at H
       have c8b0 : decide (a1 < ((rd_T44 l0_1 x11_1).f0)) = true := decide_eq_true c8
       clear c8
       by_cases c9 : x5_1.length + ((rd_T44 l0_1 x11_1).f1).length < 2932031007402
       ·rw [if_pos c9] at H
        have LMc9 := Ax.mk c9
        clear c9
        obtain ⟨y104, hy104⟩ : ∃ y_ : List (S24), y_ = (x5_1 ++ ((rd_T44 l0_1 x11_1).f1)) := ⟨_, rfl⟩
        replace H : (journal_After.l0 k1 a1 y104 l0_1 (l0_1.length : Int) (wrap64 (x11_1 + 1))) = some r := by first | (rw [hy104]; with_reducible exact H) | (have H2_ := (Option.bind_some _ _).symm.trans H; rw [hy104]; with_reducible exact H2_) | (have H2_ := (Option.bind_some _ _).symm.trans H; with_reducible exact H2_) | with_reducible exact H | (rw [hy104]; exact H) | exact H
        have Ny104 := Ax.mk hy104
        clear hy104
        have H' := Ax.mk H
        clear H
        have p102 : 0 ≤ (x11_1 : Int) := of_decide_eq_true (by first | (with_reducible assumption) | assumption)
        have q102 : x11_1 < (l0_1.length : Int) := of_decide_eq_true (by first | (with_reducible assumption) | assumption)
        obtain ⟨ad102, A102_1, c102_1, e102, hx102_0, hx102_1, hl102_1, hi102_1⟩ := at_T44 HR0_1.out x11_1 p102 q102
        cases e102
        replace hx102_0 := (HB.out.cell (World.block_lt_of_cell? w _ hx102_0)).trans hx102_0
        replace hx102_1 := (HB.out.cell (World.block_lt_of_cell? w _ hx102_1)).trans hx102_1
        have HR102_1 := Ax.mk hi102_1
        have HC102_1 := Ax.mk hl102_1
        clear hi102_1 hl102_1
        replace p102 := eq_true p102
        replace q102 := eq_true q102
        go_wp2_with (first | ((with_reducible refine gate_dst (N := 7) rfl ?_); refine box_event ?hg (N := 7) ?hd (cs := #[.int .u64 0, .slice none 0 0]) (t := 44) ?hr ?_; (case hd => rfl); (case hg => rfl); (case hr => first | (go_simp; done) | (go_simp; rfl)); intro gb103 hg w10 hbox hb; have n0_ := Ax.mk (Kd.R_below (by exact Kd.R_to HO_5.out) hb); have n1_ := Ax.mk (bB (bT BK101.out) hb); have n2_ := Ax.mk (bP bA hb); have n3_ := Ax.mk (hbox); have n4_ := Ax.mk ((ge_new hg : w.heap.size ≤ gb103)); have n5_ := n4_; have n6_ := Ax.mk ((ne_lt hg BK101.out : gb101 ≠ gb103)); have n7_ := Ax.mk ((ne_gt hg BK101.out : gb103 ≠ gb101)); clear HO_5; clear BK101; clear HB; have HO_5 := n0_; have BK101 := n1_; have HB := n2_; have BK103 := n3_; have GW103 := n4_; have GE103 := n5_; have NB101_103 := n6_; have NB103_101 := n7_; clear n0_ n1_ n2_ n3_ n4_ n5_ n6_ n7_; clear hb hbox hg; have hnb11 := NB103_101.out; have hnc11 := NB101_103.out; have hcz12_0 : w10.cell? ⟨gb103, 0, none⟩ = some (.int .u64 0) := (bC BK103.out 0).trans rfl; have hcz12_1 : w10.cell? ⟨gb103, 1, none⟩ = some (.slice none 0 0) := (bC BK103.out 1).trans rfl; have hfz12_0 := bF BK103.out 0; have hfz12_1 := bF BK103.out 1) | ((with_reducible refine gate_builtin (b := .append) (xs := #[.tmp 19, .tmp 21]) rfl ?_); at_builtin; refine Kd.R_append_rows k24 (w0 := w) w.heap.size rfl (.tmp 19) (.tmp 21) 29 24 (.agg #[(.int .i64 0), (.int .i64 0), (.int .i64 0), (.int .u64 0), (.string ⟨#[]⟩)]) 48 rfl Tryd.underlying29 info24 rfl (by decide) (by omega) u5 x5_1 ((rd_T44 l0_1 x11_1).f1) _ _ _ (fun _ => True) (fun _ => False) rfl rfl ?aO ?aR (fun _ _ h => h) (fun _ h => h.elim) ?aF ?aB ?aS ?aL ?_; (case aR => exact Kd.C_below HR102_1.out bA); (case aB => exact bA); (case aF => exact (fun _ _ => trivial)); (case aO => exact (by apply Kd.R_to; exact Kd.R_mono (Kd.R_far (p := ⟨gb103, 1, none⟩) (Kd.R_far (p := ⟨gb103, 0, none⟩) (Kd.R_types HO_5.out BK103.out (by decide)) (fun _ hk => hk.2) (.int .u64 ((rd_T44 l0_1 x11_1).f0))) (fun _ hk => hk.2) (.slice A102_1 ((rd_T44 l0_1 x11_1).f1).length c102_1)) (fun _ hk => trivial))); (case aS => exact (bS bA)); (case aL => have := LMc9.out; omega); intro v105 w13 ho hb hg hat; rw [← Ny104.out] at ho; have n0_ := Ax.mk (blk_grown (g := gb101) (o := .cells #[.int .u64 a0_0, .slice (some ad102) l0_1.length c0_1, .string a0_2] 66 (0, 0)) (by refine bT ?_; refine bR ?_ NB101_103.out _; refine bT ?_; refine bR ?_ NB101_103.out _; exact bT BK101.out) hg (Kd.R_ne HO_5.out BK101.out (by decide))); have n1_ := Ax.mk (blk_grown (g := gb103) (o := .cells #[.int .u64 ((rd_T44 l0_1 x11_1).f0), .slice A102_1 ((rd_T44 l0_1 x11_1).f1).length c102_1] 44 (0, 0)) (by refine bT ?_; refine bU (cs := #[.int .u64 ((rd_T44 l0_1 x11_1).f0), .slice none 0 0]) ?_ 1 _ rfl; refine bT ?_; refine bU (cs := #[.int .u64 0, .slice none 0 0]) ?_ 0 _ rfl; exact bT BK103.out) hg (Kd.R_ne HO_5.out BK103.out (by decide))); have n2_ := Ax.mk (hb); have n3_ := Ax.mk (ho); clear BK101; clear BK103; clear HB; clear HO_5; have BK101 := n0_; have BK103 := n1_; have HB := n2_; have HO106 := n3_; clear n0_ n1_ n2_ n3_; clear ho hb hg hat))
        go_roundg k1
        case measure => have := HK1.out; omega
        case rel => exact ⟨(y104), (wrap64 (x11_1 + 1)), (by first | rfl | (simp; done) | (simp [*]; done)), H', ⟨by have := HK1.out; omega⟩, ⟨by apply Kd.R_to; exact HO106.out⟩, ⟨by refine bT ?_; exact BK101.out⟩, ⟨bA⟩⟩
       ·rw [if_neg c9] at H
        exact absurd H (by simp)
      ·rw [if_neg c8] at H
       have c8b0 : decide (a1 < ((rd_T44 l0_1 x11_1).f0)) = false := decide_eq_false c8
       clear c8
       have H' := Ax.mk H
       clear H
       have p102 : 0 ≤ (x11_1 : Int) := of_decide_eq_true (by first | (with_reducible assumption) | assumption)
       have q102 : x11_1 < (l0_1.length : Int) := of_decide_eq_true (by first | (with_reducible assumption) | assumption)
       obtain ⟨ad102, A102_1, c102_1, e102, hx102_0, hx102_1, hl102_1, hi102_1⟩ := at_T44 HR0_1.out x11_1 p102 q102
       cases e102
       replace hx102_0 := (HB.out.cell (World.block_lt_of_cell? w _ hx102_0)).trans hx102_0
       replace hx102_1 := (HB.out.cell (World.block_lt_of_cell? w _ hx102_1)).trans hx102_1
       have HR102_1 := Ax.mk hi102_1
       have HC102_1 := Ax.mk hl102_1
       clear hi102_1 hl102_1
       replace p102 := eq_true p102
       replace q102 := eq_true q102
       go_wp2_with (first | ((with_reducible refine gate_dst (N := 7) rfl ?_); refine box_event ?hg (N := 7) ?hd (cs := #[.int .u64 0, .slice none 0 0]) (t := 44) ?hr ?_; (case hd => rfl); (case hg => rfl); (case hr => first | (go_simp; done) | (go_simp; rfl)); intro gb103 hg w14 hbox hb; have n0_ := Ax.mk (Kd.R_below (by exact Kd.R_to HO_5.out) hb); have n1_ := Ax.mk (bB (bT BK101.out) hb); have n2_ := Ax.mk (bP bA hb); have n3_ := Ax.mk (hbox); have n4_ := Ax.mk ((ge_new hg : w.heap.size ≤ gb103)); have n5_ := n4_; have n6_ := Ax.mk ((ne_lt hg BK101.out : gb101 ≠ gb103)); have n7_ := Ax.mk ((ne_gt hg BK101.out : gb103 ≠ gb101)); clear HO_5; clear BK101; clear HB; have HO_5 := n0_; have BK101 := n1_; have HB := n2_; have BK103 := n3_; have GW103 := n4_; have GE103 := n5_; have NB101_103 := n6_; have NB103_101 := n7_; clear n0_ n1_ n2_ n3_ n4_ n5_ n6_ n7_; clear hb hbox hg; have hnb15 := NB103_101.out; have hnc15 := NB101_103.out; have hcz16_0 : w14.cell? ⟨gb103, 0, none⟩ = some (.int .u64 0) := (bC BK103.out 0).trans rfl; have hcz16_1 : w14.cell? ⟨gb103, 1, none⟩ = some (.slice none 0 0) := (bC BK103.out 1).trans rfl; have hfz16_0 := bF BK103.out 0; have hfz16_1 := bF BK103.out 1))
       go_roundg k1
       case measure => have := HK1.out; omega
       case rel => exact ⟨(x5_1), (wrap64 (x11_1 + 1)), (by first | rfl | (simp; done) | (simp [*]; done)), H', ⟨by have := HK1.out; omega⟩, ⟨by apply Kd.R_to; exact Kd.R_mono (Kd.R_far (p := ⟨gb103, 1, none⟩) (Kd.R_far (p := ⟨gb103, 0, none⟩) (Kd.R_types HO_5.out BK103.out (by decide)) (fun _ hk => hk.2) (.int .u64 ((rd_T44 l0_1 x11_1).f0))) (fun _ hk => hk.2) (.slice A102_1 ((rd_T44 l0_1 x11_1).f1).length c102_1)) (fun _ hk => trivial)⟩, ⟨by refine bT ?_; refine bR ?_ NB101_103.out _; refine bT ?_; refine bR ?_ NB101_103.out _; refine bT ?_; exact BK101.out⟩, ⟨bA⟩⟩
     ·rw [if_neg c7] at H
      exact absurd H (by simp)
    ·rw [if_neg c6] at H
     exact absurd H (by simp)
   ·rw [if_neg c5] at H
    have c5b0 : decide (x11_1 < (l0_1.length : Int)) = false := decide_eq_false c5
    clear c5
    obtain rfl := Option.some.inj H
    go_wp2
    go_ret
    exact ⟨_, by first | rfl | (simp [errW_none, errW_some] <;> rfl) | (simp [*, errW_none, errW_some] <;> rfl), by apply Kd.R_to; exact HO_5.out, bA⟩
def r13_After.l0 : Nat → Int → List (S26) → Int → Int → List (S46) → ByteArray → Option ((List (S26)))
 | 0, _, _, _, _, _, _ => none
 | k + 1, x1, x5, x6, x336000, x336001, x336002 => if x6 < (x336001.length : Int) then (if 0 ≤ x6 then (if ((rd_T46 x336001 x6).f0) > x1 then (if x5.length + ((rd_T46 x336001 x6).f1).length < 2932031007402 then (r13_After.l0 k x1 (x5 ++ ((rd_T46 x336001 x6).f1)) (wrap64 (x6 + 1)) x336000 x336001 x336002) else (none)) else (r13_After.l0 k x1 x5 (wrap64 (x6 + 1)) x336000 x336001 x336002)) else (none)) else (some x5)
def r13_After.f (k : Nat) (a0_0 : Int) (l0_1 : List (S46)) (a0_2 : ByteArray) (a1 : Int) : Option ((List (S26))) := r13_After.l0 k a1 ([] : List (S26)) 0 a0_0 l0_1 a0_2
theorem r13_After.mono_l : ∀ k, (∀ y0 y1 y2 y3 y4 y5, LeO (r13_After.l0 k y0 y1 y2 y3 y4 y5) (r13_After.l0 (k + 1) y0 y1 y2 y3 y4 y5))
 | 0 => fun _ _ _ _ _ _ r h => by simp [r13_After.l0] at h
 | k + 1 => by
  have ih0 := r13_After.mono_l k
  ·intro y0 y1 y2 y3 y4 y5
   unfold r13_After.l0
   repeat' first
   | (with_reducible exact ih0 _ _ _ _ _ _)
   | (with_reducible exact LeO.refl _)
   | (with_reducible exact LeO.none _)
   | (with_reducible refine LeO.ite ?_ ?_)
   | (with_reducible refine LeO.bind ?_ (fun _ => ?_))
   | exact ih0 _ _ _ _ _ _
   | exact LeO.none _
   | refine LeO.ite ?_ ?_
   | refine LeO.bind ?_ (fun _ => ?_)
theorem r13_After.mono : ∀ a0 a1 a2 a3 k, LeO (r13_After.f k a0 a1 a2 a3) (r13_After.f (k + 1) a0 a1 a2 a3) := by
 intro a0 a1 a2 a3 k
 have ih0 := r13_After.mono_l k
 unfold r13_After.f
 repeat' first
   | (with_reducible exact ih0 _ _ _ _ _ _)
   | (with_reducible exact LeO.refl _)
   | (with_reducible exact LeO.none _)
   | (with_reducible refine LeO.ite ?_ ?_)
   | (with_reducible refine LeO.bind ?_ (fun _ => ?_))
   | exact ih0 _ _ _ _ _ _
   | exact LeO.none _
   | refine LeO.ite ?_ ?_
   | refine LeO.bind ?_ (fun _ => ?_)
set_option maxHeartbeats 8000000 in
set_option maxRecDepth 100000 in
theorem r13_After.calls (k : Nat) (a0_0 : Int) (A0_1 : Option Addr) (c0_1 : Nat) (l0_1 : List (S46)) (a0_2 : ByteArray) (a1 : Int) (r : List (S26)) (w : World) (hr0_1 : Kd.C k46 w A0_1 l0_1.length l0_1) (hc0_1 : l0_1.length ≤ c0_1) (h : r13_After.f k a0_0 l0_1 a0_2 a1 = some r) :
  Calls Tryd.prog 37 #[.agg #[.int .u64 a0_0, .slice A0_1 l0_1.length c0_1, .string a0_2], .int .u64 a1] w fun e w' => ∃ v0_ : Value, e = .returned (v0_) ∧ Kd.R k26 26 w' w.heap.size (fun _ => True) v0_ r ∧ Below w.heap.size w w' := by
 have hu68 := Tryd.underlying68
 have HR0_1 := Ax.mk hr0_1
 have HC0_1 := Ax.mk hc0_1
 clear hr0_1 hc0_1
 have HB := Ax.mk (Below.refl w.heap.size w)
 have H : (r13_After.l0 k a1 ([] : List (S26)) 0 a0_0 l0_1 a0_2) = some r := h
 clear h
 have H' := Ax.mk H
 clear H
 go_enter Tryd.func37, Tryd.ntmps37
 go_wp2_with (first | ((with_reducible refine gate_dst (N := 2) rfl ?_); refine box_event ?hg (N := 2) ?hd (cs := #[.int .u64 a0_0, .slice A0_1 l0_1.length c0_1, .string a0_2]) (t := 68) ?hr ?_; (case hd => rfl); (case hg => rfl); (case hr => first | (go_simp; done) | (go_simp; rfl)); intro gb335 hg w3 hbox hb; have n0_ := Ax.mk (bP bA hb); have n1_ := Ax.mk (hbox); have n2_ := Ax.mk ((ge_new hg : w.heap.size ≤ gb335)); have n3_ := n2_; clear HB; have HB := n0_; have BK335 := n1_; have GW335 := n2_; have GE335 := n3_; clear n0_ n1_ n2_ n3_; clear hb hbox hg))
 go_loopg [5, 6] k (fun kq v5 v6 w' => ∃ (x5_1 : List (S26)) (x6_1 : Int), v6 = .int .i64 x6_1 ∧ Ax (r13_After.l0 kq a1 x5_1 x6_1 a0_0 l0_1 a0_2 = some r) ∧ Ax (kq ≤ k) ∧ Ax (Kd.R k26 26 w' w.heap.size (fun _ => True) v5 x5_1) ∧ Ax (w'.heap[gb335]? = some (.cells #[.int .u64 a0_0, (.slice A0_1 l0_1.length c0_1), .string a0_2] 68 (0, 0))) ∧ Ax (Below w.heap.size w w'))
 case atStart => exact ⟨(([] : List (S26))), (0), (by first | rfl | (simp; done) | (simp [*]; done)), H', ⟨Nat.le_refl _⟩, ⟨by first | exact Kd.R_nil _ _ _ _ _ | exact Kd.N_nil _ _ _ _ _ | exact Kd.V_nil _ _ _ _ _ | exact Kd.Q_nil _ _ _ _ _ | exact Kd.S_nil _ _ _ _ _⟩, ⟨by refine bT ?_; exact BK335.out⟩, ⟨bA⟩⟩
 case round =>
  clear H'
  try clear p2
  try clear c3
  obtain ⟨x5_1, x6_1, rfl, HA, HK1, HO_5, BK335, HB⟩ := hrel
  cases gk with
  | zero => exact absurd HA.out (by simp [r13_After.l0])
  | succ k1 =>
   have H := HA.out
   clear HA
   simp only [r13_After.l0] at H
   by_cases c4 : x6_1 < (l0_1.length : Int)
   ·rw [if_pos c4] at H
    have c4b0 : decide (x6_1 < (l0_1.length : Int)) = true := decide_eq_true c4
    clear c4
    by_cases c5 : 0 ≤ x6_1
    ·rw [if_pos c5] at H
     have c5b0 : decide (0 ≤ x6_1) = true := decide_eq_true c5
     clear c5
     by_cases c6 : ((rd_T46 l0_1 x6_1).f0) > a1
     ·rw [if_pos c6] at H
      have c6b0 : decide (a1 < ((rd_T46 l0_1 x6_1).f0)) = true := decide_eq_true c6
      clear c6
      by_cases c7 : x5_1.length + ((rd_T46 l0_1 x6_1).f1).length < 2932031007402
      ·rw [if_pos c7] at H
       have LMc7 := Ax.mk c7
       clear c7
       obtain ⟨y338, hy338⟩ : ∃ y_ : List (S26), y_ = (x5_1 ++ ((rd_T46 l0_1 x6_1).f1)) := ⟨_, rfl⟩
       replace H : (r13_After.l0 k1 a1 y338 (wrap64 (x6_1 + 1)) a0_0 l0_1 a0_2) = some r := by first | (rw [hy338]; with_reducible exact H) | (have H2_ := (Option.bind_some _ _).symm.trans H; rw [hy338]; with_reducible exact H2_) | (have H2_ := (Option.bind_some _ _).symm.trans H; with_reducible exact H2_) | with_reducible exact H | (rw [hy338]; exact H) | exact H
       have Ny338 := Ax.mk hy338
       clear hy338
       have H' := Ax.mk H
       clear H
       have hcz8_0 : wr.cell? ⟨gb335, 0, none⟩ = some (.int .u64 a0_0) := (bC BK335.out 0).trans rfl
       have hcz8_1 : wr.cell? ⟨gb335, 1, none⟩ = some (.slice A0_1 l0_1.length c0_1) := (bC BK335.out 1).trans rfl
       have hcz8_2 : wr.cell? ⟨gb335, 2, none⟩ = some (.string a0_2) := (bC BK335.out 2).trans rfl
       have hfz8_0 := bF BK335.out 0
       have hfz8_1 := bF BK335.out 1
       have hfz8_2 := bF BK335.out 2
       have p336 : 0 ≤ (x6_1 : Int) := of_decide_eq_true (by first | (with_reducible assumption) | assumption)
       have q336 : x6_1 < (l0_1.length : Int) := of_decide_eq_true (by first | (with_reducible assumption) | assumption)
       obtain ⟨ad336, A336_1, c336_1, e336, hx336_0, hx336_1, hl336_1, hi336_1⟩ := at_T46 HR0_1.out x6_1 p336 q336
       cases e336
       replace hx336_0 := (HB.out.cell (World.block_lt_of_cell? w _ hx336_0)).trans hx336_0
       replace hx336_1 := (HB.out.cell (World.block_lt_of_cell? w _ hx336_1)).trans hx336_1
       have HR336_1 := Ax.mk hi336_1
       have HC336_1 := Ax.mk hl336_1
       clear hi336_1 hl336_1
       replace p336 := eq_true p336
       replace q336 := eq_true q336
       have p337 : 0 ≤ (x6_1 : Int) := of_decide_eq_true (by first | (with_reducible assumption) | assumption)
       have q337 : x6_1 < (l0_1.length : Int) := of_decide_eq_true (by first | (with_reducible assumption) | assumption)
       obtain ⟨ad337, A337_1, c337_1, e337, hx337_0, hx337_1, hl337_1, hi337_1⟩ := at_T46 HR0_1.out x6_1 p337 q337
       obtain rfl : ad336 = ad337 := (by injection e337)
       replace hx337_0 := (HB.out.cell (World.block_lt_of_cell? w _ hx337_0)).trans hx337_0
       replace hx337_1 := (HB.out.cell (World.block_lt_of_cell? w _ hx337_1)).trans hx337_1
       have HR337_1 := Ax.mk hi337_1
       have HC337_1 := Ax.mk hl337_1
       clear hi337_1 hl337_1
       replace p337 := eq_true p337
       replace q337 := eq_true q337
       have ea_ := Option.some.inj (hx336_1.symm.trans hx337_1)
       injection ea_ with ea_ en_ ec_
       subst ea_
       subst ec_
       clear en_
       go_wp2_with (first | ((with_reducible refine gate_builtin (b := .append) (xs := #[.tmp 22, .tmp 28]) rfl ?_); at_builtin; refine Kd.R_append_rows k26 (w0 := w) w.heap.size rfl (.tmp 22) (.tmp 28) 27 26 (.agg #[(.int .i64 0), (.int .i64 0), (.int .i64 0), (.int .u64 0), (.string ⟨#[]⟩)]) 48 rfl Tryd.underlying27 info26 rfl (by decide) (by omega) u5 x5_1 ((rd_T46 l0_1 x6_1).f1) _ _ _ (fun _ => True) (fun _ => False) rfl rfl ?aO ?aR (fun _ _ h => h) (fun _ h => h.elim) ?aF ?aB ?aS ?aL ?_; (case aR => repeat (first | exact (Kd.C_below HR337_1.out HB.out) | (with_reducible refine Kd.C_alloc ?_ _) | (with_reducible refine Kd.C_drewN ?_ _) | (with_reducible refine Kd.C_drew ?_))); (case aB => exact bA); (case aF => exact (fun _ _ => trivial)); (case aO => exact (by exact Kd.R_to HO_5.out)); (case aS => exact (bS bA)); (case aL => have := LMc7.out; omega); intro v339 w9 ho hb hg hat; rw [← Ny338.out] at ho; have n0_ := Ax.mk (blk_grown (g := gb335) (o := .cells #[.int .u64 a0_0, .slice (some ad336) l0_1.length c0_1, .string a0_2] 68 (0, 0)) (bT BK335.out) hg (Kd.R_ne HO_5.out BK335.out (by decide))); have n1_ := Ax.mk (hb); have n2_ := Ax.mk (ho); clear BK335; clear HB; clear HO_5; have BK335 := n0_; have HB := n1_; have HO340 := n2_; clear n0_ n1_ n2_; clear ho hb hg hat))
       go_roundg k1
       case measure => have := HK1.out; omega
       case rel => exact ⟨(y338), (wrap64 (x6_1 + 1)), (by first | rfl | (simp; done) | (simp [*]; done)), H', ⟨by have := HK1.out; omega⟩, ⟨by apply Kd.R_to; exact HO340.out⟩, ⟨by refine bT ?_; exact BK335.out⟩, ⟨bA⟩⟩
      ·rw [if_neg c7] at H
       exact absurd H (by simp)
     ·rw [if_neg c6] at H
      have c6b0 : decide (a1 < ((rd_T46 l0_1 x6_1).f0)) = false := decide_eq_false c6
      clear c6
      have H' := Ax.mk H
      clear H
      have hcz10_0 : wr.cell? ⟨gb335, 0, none⟩ = some (.int .u64 a0_0) := (bC BK335.out 0).trans rfl
      have hcz10_1 : wr.cell? ⟨gb335, 1, none⟩ = some (.slice A0_1 l0_1.length c0_1) := (bC BK335.out 1).trans rfl
      have hcz10_2 : wr.cell? ⟨gb335, 2, none⟩ = some (.string a0_2) := (bC BK335.out 2).trans rfl
      have hfz10_0 := bF BK335.out 0
      have hfz10_1 := bF BK335.out 1
      have hfz10_2 := bF BK335.out 2
      have p336 : 0 ≤ (x6_1 : Int) := of_decide_eq_true (by first | (with_reducible assumption) | assumption)
      have q336 : x6_1 < (l0_1.length : Int) := of_decide_eq_true (by first | (with_reducible assumption) | assumption)
      obtain ⟨ad336, A336_1, c336_1, e336, hx336_0, hx336_1, hl336_1, hi336_1⟩ := at_T46 HR0_1.out x6_1 p336 q336
      cases e336
      replace hx336_0 := (HB.out.cell (World.block_lt_of_cell? w _ hx336_0)).trans hx336_0
      replace hx336_1 := (HB.out.cell (World.block_lt_of_cell? w _ hx336_1)).trans hx336_1
      have HR336_1 := Ax.mk hi336_1
      have HC336_1 := Ax.mk hl336_1
      clear hi336_1 hl336_1
      replace p336 := eq_true p336
      replace q336 := eq_true q336
      go_wp2
      go_roundg k1
      case measure => have := HK1.out; omega
      case rel => exact ⟨(x5_1), (wrap64 (x6_1 + 1)), (by first | rfl | (simp; done) | (simp [*]; done)), H', ⟨by have := HK1.out; omega⟩, ⟨by apply Kd.R_to; exact HO_5.out⟩, ⟨by refine bT ?_; exact BK335.out⟩, ⟨bA⟩⟩
    ·rw [if_neg c5] at H
     exact absurd H (by simp)
   ·rw [if_neg c4] at H
    have c4b0 : decide (x6_1 < (l0_1.length : Int)) = false := decide_eq_false c4
    clear c4
    obtain rfl := Option.some.inj H
    have hcz11_0 : wr.cell? ⟨gb335, 0, none⟩ = some (.int .u64 a0_0) := (bC BK335.out 0).trans rfl
    have hcz11_1 : wr.cell? ⟨gb335, 1, none⟩ = some (.slice A0_1 l0_1.length c0_1) := (bC BK335.out 1).trans rfl
    have hcz11_2 : wr.cell? ⟨gb335, 2, none⟩ = some (.string a0_2) := (bC BK335.out 2).trans rfl
    have hfz11_0 := bF BK335.out 0
    have hfz11_1 := bF BK335.out 1
    have hfz11_2 := bF BK335.out 2
    go_wp2
    go_ret
    exact ⟨_, by first | rfl | (simp [errW_none, errW_some] <;> rfl) | (simp [*, errW_none, errW_some] <;> rfl), by apply Kd.R_to; exact HO_5.out, bA⟩
def l13_steps.l0 : Nat → List (S24) → List (S26) → Int → Option ((List (S26)))
 | 0, _, _, _ => none
 | k + 1, x0, x3, x4 => if x4 < (x0.length : Int) then (if 0 ≤ x4 then (if x3.length < 2932031007402 then (l13_steps.l0 k x0 (x3 ++ [(⟨(rd_T24 x0 x4).f0, (rd_T24 x0 x4).f1, (rd_T24 x0 x4).f2, (rd_T24 x0 x4).f3, (rd_T24 x0 x4).f4⟩ : S26)]) (wrap64 (x4 + 1))) else (none)) else (none)) else (some x3)
def l13_steps.f (k : Nat) (l0 : List (S24)) : Option ((List (S26))) := l13_steps.l0 k l0 ([] : List (S26)) 0
theorem l13_steps.mono_l : ∀ k, (∀ y0 y1 y2, LeO (l13_steps.l0 k y0 y1 y2) (l13_steps.l0 (k + 1) y0 y1 y2))
 | 0 => fun _ _ _ r h => by simp [l13_steps.l0] at h
 | k + 1 => by
  have ih0 := l13_steps.mono_l k
  ·intro y0 y1 y2
   unfold l13_steps.l0
   repeat' first
   | (with_reducible exact ih0 _ _ _)
   | (with_reducible exact LeO.refl _)
   | (with_reducible exact LeO.none _)
   | (with_reducible refine LeO.ite ?_ ?_)
   | (with_reducible refine LeO.bind ?_ (fun _ => ?_))
   | exact ih0 _ _ _
   | exact LeO.none _
   | refine LeO.ite ?_ ?_
   | refine LeO.bind ?_ (fun _ => ?_)
theorem l13_steps.mono : ∀ a0 k, LeO (l13_steps.f k a0) (l13_steps.f (k + 1) a0) := by
 intro a0 k
 have ih0 := l13_steps.mono_l k
 unfold l13_steps.f
 repeat' first
   | (with_reducible exact ih0 _ _ _)
   | (with_reducible exact LeO.refl _)
   | (with_reducible exact LeO.none _)
   | (with_reducible refine LeO.ite ?_ ?_)
   | (with_reducible refine LeO.bind ?_ (fun _ => ?_))
   | exact ih0 _ _ _
   | exact LeO.none _
   | refine LeO.ite ?_ ?_
   | refine LeO.bind ?_ (fun _ => ?_)
set_option maxHeartbeats 8000000 in
set_option maxRecDepth 100000 in
theorem l13_steps.calls (k : Nat) (A0 : Option Addr) (c0 : Nat) (l0 : List (S24)) (r : List (S26)) (w : World) (hr0 : Kd.C k24 w A0 l0.length l0) (hc0 : l0.length ≤ c0) (h : l13_steps.f k l0 = some r) :
  Calls Tryd.prog 40 #[.slice A0 l0.length c0] w fun e w' => ∃ v0_ : Value, e = .returned (v0_) ∧ Kd.R k26 26 w' w.heap.size (fun _ => True) v0_ r ∧ Below w.heap.size w w' := by
 have hu24 := Tryd.underlying24
 have hu26 := Tryd.underlying26
 have HR0 := Ax.mk hr0
 have HC0 := Ax.mk hc0
 clear hr0 hc0
 have HB := Ax.mk (Below.refl w.heap.size w)
 have H : (l13_steps.l0 k l0 ([] : List (S26)) 0) = some r := h
 clear h
 have H' := Ax.mk H
 clear H
 go_enter Tryd.func40, Tryd.ntmps40
 go_wp2
 go_loopg [3, 4] k (fun kq v3 v4 w' => ∃ (x3_1 : List (S26)) (x4_1 : Int), v4 = .int .i64 x4_1 ∧ Ax (l13_steps.l0 kq l0 x3_1 x4_1 = some r) ∧ Ax (kq ≤ k) ∧ Ax (Kd.R k26 26 w' w.heap.size (fun _ => True) v3 x3_1) ∧ Ax (Below w.heap.size w w'))
 case atStart => exact ⟨(([] : List (S26))), (0), (by first | rfl | (simp; done) | (simp [*]; done)), H', ⟨Nat.le_refl _⟩, ⟨by first | exact Kd.R_nil _ _ _ _ _ | exact Kd.N_nil _ _ _ _ _ | exact Kd.V_nil _ _ _ _ _ | exact Kd.Q_nil _ _ _ _ _ | exact Kd.S_nil _ _ _ _ _⟩, ⟨bA⟩⟩
 case round =>
  clear H'
  obtain ⟨x3_1, x4_1, rfl, HA, HK1, HO_3, HB⟩ := hrel
  cases gk with
  | zero => exact absurd HA.out (by simp [l13_steps.l0])
  | succ k1 =>
   have H := HA.out
   clear HA
   simp only [l13_steps.l0] at H
   by_cases c2 : x4_1 < (l0.length : Int)
   ·rw [if_pos c2] at H
    have c2b0 : decide (x4_1 < (l0.length : Int)) = true := decide_eq_true c2
    clear c2
    by_cases c3 : 0 ≤ x4_1
    ·rw [if_pos c3] at H
     have c3b0 : decide (0 ≤ x4_1) = true := decide_eq_true c3
     clear c3
     by_cases c4 : x3_1.length < 2932031007402
     ·rw [if_pos c4] at H
      have LMc4 := Ax.mk c4
      clear c4
      obtain ⟨y207, hy207⟩ : ∃ y_ : List (S26), y_ = (x3_1 ++ [(⟨(rd_T24 l0 x4_1).f0, (rd_T24 l0 x4_1).f1, (rd_T24 l0 x4_1).f2, (rd_T24 l0 x4_1).f3, (rd_T24 l0 x4_1).f4⟩ : S26)]) := ⟨_, rfl⟩
      replace H : (l13_steps.l0 k1 l0 y207 (wrap64 (x4_1 + 1))) = some r := by first | (rw [hy207]; with_reducible exact H) | (have H2_ := (Option.bind_some _ _).symm.trans H; rw [hy207]; with_reducible exact H2_) | (have H2_ := (Option.bind_some _ _).symm.trans H; with_reducible exact H2_) | with_reducible exact H | (rw [hy207]; exact H) | exact H
      have Ny207 := Ax.mk hy207
      clear hy207
      have H' := Ax.mk H
      clear H
      have p205 : 0 ≤ (x4_1 : Int) := of_decide_eq_true (by first | (with_reducible assumption) | assumption)
      have q205 : x4_1 < (l0.length : Int) := of_decide_eq_true (by first | (with_reducible assumption) | assumption)
      obtain ⟨ad205, e205, hx205_0, hx205_1, hx205_2, hx205_3, hx205_4⟩ := at_T24 HR0.out x4_1 p205 q205
      cases e205
      replace hx205_0 := (HB.out.cell (World.block_lt_of_cell? w _ hx205_0)).trans hx205_0
      replace hx205_1 := (HB.out.cell (World.block_lt_of_cell? w _ hx205_1)).trans hx205_1
      replace hx205_2 := (HB.out.cell (World.block_lt_of_cell? w _ hx205_2)).trans hx205_2
      replace hx205_3 := (HB.out.cell (World.block_lt_of_cell? w _ hx205_3)).trans hx205_3
      replace hx205_4 := (HB.out.cell (World.block_lt_of_cell? w _ hx205_4)).trans hx205_4
      replace p205 := eq_true p205
      replace q205 := eq_true q205
      go_wp2_with (first | ((with_reducible refine gate_dst (N := 5) rfl ?_); refine box_event ?hg (N := 5) ?hd (cs := #[.int .i64 0, .int .i64 0, .int .i64 0, .int .u64 0, .string (⟨#[]⟩ : ByteArray)]) (t := 24) ?hr ?_; (case hd => rfl); (case hg => rfl); (case hr => first | (go_simp; done) | (go_simp; rfl)); intro gb206 hg w5 hbox hb; have n0_ := Ax.mk (Kd.R_below (by exact Kd.R_to HO_3.out) hb); have n1_ := Ax.mk (bP bA hb); have n2_ := Ax.mk (hbox); have n3_ := Ax.mk ((ge_new hg : w.heap.size ≤ gb206)); have n4_ := n3_; clear HO_3; clear HB; have HO_3 := n0_; have HB := n1_; have BK206 := n2_; have GW206 := n3_; have GE206 := n4_; clear n0_ n1_ n2_ n3_ n4_; clear hb hbox hg; have hcz6_0 : w5.cell? ⟨gb206, 0, none⟩ = some (.int .i64 0) := (bC BK206.out 0).trans rfl; have hcz6_1 : w5.cell? ⟨gb206, 1, none⟩ = some (.int .i64 0) := (bC BK206.out 1).trans rfl; have hcz6_2 : w5.cell? ⟨gb206, 2, none⟩ = some (.int .i64 0) := (bC BK206.out 2).trans rfl; have hcz6_3 : w5.cell? ⟨gb206, 3, none⟩ = some (.int .u64 0) := (bC BK206.out 3).trans rfl; have hcz6_4 : w5.cell? ⟨gb206, 4, none⟩ = some (.string (⟨#[]⟩ : ByteArray)) := (bC BK206.out 4).trans rfl; have hfz6_0 := bF BK206.out 0; have hfz6_1 := bF BK206.out 1; have hfz6_2 := bF BK206.out 2; have hfz6_3 := bF BK206.out 3; have hfz6_4 := bF BK206.out 4) | ((with_reducible refine gate_builtin (b := .append) (xs := #[.tmp 16, .tmp 28]) rfl ?_); at_builtin; refine Kd.R_append k26 (w0 := w) w.heap.size rfl (.tmp 16) (.tmp 28) 27 26 (.agg #[(.int .i64 0), (.int .i64 0), (.int .i64 0), (.int .u64 0), (.string ⟨#[]⟩)]) 48 rfl Tryd.underlying27 info26 rfl (by decide) (by omega) u3 x3_1 (⟨(rd_T24 l0 x4_1).f0, (rd_T24 l0 x4_1).f1, (rd_T24 l0 x4_1).f2, (rd_T24 l0 x4_1).f3, (rd_T24 l0 x4_1).f4⟩ : S26) [.int .i64 ((rd_T24 l0 x4_1).f0), .int .i64 ((rd_T24 l0 x4_1).f1), .int .i64 ((rd_T24 l0 x4_1).f2), .int .u64 ((rd_T24 l0 x4_1).f3), .string ((rd_T24 l0 x4_1).f4)] (fun _ => True) (fun _ => False) rfl (by first | (go_simp; done) | (go_simp; rfl)) ?aP (fun _ hk => hk.elim) ?aF ?aO ?aB ?aS ?aL ?_; (case aP => exact k26_mkM _ _ _ (⟨(rd_T24 l0 x4_1).f0, (rd_T24 l0 x4_1).f1, (rd_T24 l0 x4_1).f2, (rd_T24 l0 x4_1).f3, (rd_T24 l0 x4_1).f4⟩ : S26)); (case aB => exact bA); (case aF => exact (fun _ _ => trivial)); (case aO => exact (by apply Kd.R_to; exact Kd.R_mono (Kd.R_far (p := ⟨gb206, 4, none⟩) (Kd.R_far (p := ⟨gb206, 3, none⟩) (Kd.R_far (p := ⟨gb206, 2, none⟩) (Kd.R_far (p := ⟨gb206, 1, none⟩) (Kd.R_far (p := ⟨gb206, 0, none⟩) (Kd.R_types HO_3.out BK206.out (by decide)) (fun _ hk => hk.2) (.int .i64 ((rd_T24 l0 x4_1).f0))) (fun _ hk => hk.2) (.int .i64 ((rd_T24 l0 x4_1).f1))) (fun _ hk => hk.2) (.int .i64 ((rd_T24 l0 x4_1).f2))) (fun _ hk => hk.2) (.int .u64 ((rd_T24 l0 x4_1).f3))) (fun _ hk => hk.2) (.string ((rd_T24 l0 x4_1).f4))) (fun _ hk => trivial))); (case aS => exact (bS bA)); (case aL => have := LMc4.out; omega); intro v208 w7 ho hb hg hat; rw [← Ny207.out] at ho; have n0_ := Ax.mk (blk_grown (g := gb206) (o := .cells #[.int .i64 ((rd_T24 l0 x4_1).f0), .int .i64 ((rd_T24 l0 x4_1).f1), .int .i64 ((rd_T24 l0 x4_1).f2), .int .u64 ((rd_T24 l0 x4_1).f3), .string ((rd_T24 l0 x4_1).f4)] 24 (0, 0)) (by refine bT ?_; refine bU (cs := #[.int .i64 ((rd_T24 l0 x4_1).f0), .int .i64 ((rd_T24 l0 x4_1).f1), .int .i64 ((rd_T24 l0 x4_1).f2), .int .u64 ((rd_T24 l0 x4_1).f3), .string (⟨#[]⟩ : ByteArray)]) ?_ 4 _ rfl; refine bT ?_; refine bU (cs := #[.int .i64 ((rd_T24 l0 x4_1).f0), .int .i64 ((rd_T24 l0 x4_1).f1), .int .i64 ((rd_T24 l0 x4_1).f2), .int .u64 0, .string (⟨#[]⟩ : ByteArray)]) ?_ 3 _ rfl; refine bT ?_; refine bU (cs := #[.int .i64 ((rd_T24 l0 x4_1).f0), .int .i64 ((rd_T24 l0 x4_1).f1), .int .i64 0, .int .u64 0, .string (⟨#[]⟩ : ByteArray)]) ?_ 2 _ rfl; refine bT ?_; refine bU (cs := #[.int .i64 ((rd_T24 l0 x4_1).f0), .int .i64 0, .int .i64 0, .int .u64 0, .string (⟨#[]⟩ : ByteArray)]) ?_ 1 _ rfl; refine bT ?_; refine bU (cs := #[.int .i64 0, .int .i64 0, .int .i64 0, .int .u64 0, .string (⟨#[]⟩ : ByteArray)]) ?_ 0 _ rfl; exact bT BK206.out) hg (Kd.R_ne HO_3.out BK206.out (by decide))); have n1_ := Ax.mk (hb); have n2_ := Ax.mk (ho); clear BK206; clear HB; clear HO_3; have BK206 := n0_; have HB := n1_; have HO209 := n2_; clear n0_ n1_ n2_; clear ho hb hg hat))
      go_roundg k1
      case measure => have := HK1.out; omega
      case rel => exact ⟨(y207), (wrap64 (x4_1 + 1)), (by first | rfl | (simp; done) | (simp [*]; done)), H', ⟨by have := HK1.out; omega⟩, ⟨by apply Kd.R_to; exact HO209.out⟩, ⟨bA⟩⟩
     ·rw [if_neg c4] at H
      exact absurd H (by simp)
    ·rw [if_neg c3] at H
     exact absurd H (by simp)
   ·rw [if_neg c2] at H
    have c2b0 : decide (x4_1 < (l0.length : Int)) = false := decide_eq_false c2
    clear c2
    obtain rfl := Option.some.inj H
    go_wp2
    go_ret
    exact ⟨_, by first | rfl | (simp [errW_none, errW_some] <;> rfl) | (simp [*, errW_none, errW_some] <;> rfl), by apply Kd.R_to; exact HO_3.out, bA⟩
end Go.Proofs.YtboommbclbjlnaaDoor.Fn
end
