-- Packed by pack.py, a program of this session, out of texts of this claim.
import Derived.Test.YtboommbclbjlnaaDoorClJournalReads1
section
-- Written by printx.py, a program of this session over the kit's print: each Go function as a plain Lean function, and that the Go code computes it.
namespace Go.Proofs.YtboommbclbjlnaaDoor.Fn
open Go.RowKit Go.Proofs.YtboommbclbjlnaaDoorW.PrintWords Go.Proofs.YtboommbclbjlnaaDoorW.PrintLast Go.Proofs.YtboommbclbjlnaaDoorW.PrintMore Go.Proofs.YtboommbclbjlnaaDoor.Lf
attribute [local go_sem] max2_int min2_int max_two min_two max_three min_three max_four min_four   -- for this text's walks alone
set_option linter.unusedVariables false
set_option linter.unusedSimpArgs false
def journal_Log_with.f (k : Nat) (a0_0 : Int) (l0_1 : List (S44)) (a0_2 : ByteArray) (a1_0 : Int) (l1_1 : List (S24)) : Option (Int × (List (S44)) × ByteArray × Int) := (journal_closed.f k a1_0 l1_1).bind fun bt137 => (if bt137.2 = 0 then ((step_Step.f l1_1).bind fun t139 => ((step_Group.f l0_1).bind fun t142 => ((some (([(⟨a1_0, t139⟩ : S44)] : List (S44)) : List (S44))).bind fun y145 => (if t142.length + y145.length < 4398046511104 then (if a0_2.size + bt137.1.size ≤ 9223372036854775807 then (some (a1_0, (t142 ++ y145), a0_2 ++ bt137.1, 0)) else (none)) else (none))))) else (some (0, ([] : List (S44)), (⟨#[]⟩ : ByteArray), bt137.2)))
theorem journal_Log_with.mono : ∀ a0 a1 a2 a3 a4 k, LeO (journal_Log_with.f k a0 a1 a2 a3 a4) (journal_Log_with.f (k + 1) a0 a1 a2 a3 a4) := by
 intro a0 a1 a2 a3 a4 k
 unfold journal_Log_with.f
 repeat' first
   | (with_reducible exact journal_closed.mono _ _ _)
   | (with_reducible exact LeO.refl _)
   | (with_reducible exact LeO.none _)
   | (with_reducible refine LeO.ite ?_ ?_)
   | (with_reducible refine LeO.bind ?_ (fun _ => ?_))
   | exact journal_closed.mono _ _ _
   | exact LeO.none _
   | refine LeO.ite ?_ ?_
   | refine LeO.bind ?_ (fun _ => ?_)
def journal_Log_with.T5 : Bool × List (List Nat × List Nat) := (true, [([], []), ([0], [0]), ([], []), ([2], [2]), ([3], [3]), ([], []), ([5], [5]), ([4, 6, 4], [4, 6]), ([], []), ([8], [8]), ([], []), ([9, 10], [9, 10]), ([1, 7, 11], [1, 7, 11]), ([12, 7, 0, 1, 2, 3, 4, 5, 6, 7, 8, 9, 10, 11, 12], [12]), ([13, 0, 1, 2, 3, 4, 5, 6, 7, 8, 9, 10, 11, 12, 13], [])])
def journal_Log_with.B5 : List Nat := [0, 1, 0, 4, 12, 0, 32, 124, 0, 256, 0, 1792, 4095, 8191, 16383]
theorem journal_Log_with.tab5 : rtab .any (opsOf Tryd.f62 5) = journal_Log_with.T5 := by kernel_rfl
theorem journal_Log_with.bits5 : waitsOk journal_Log_with.T5.2 journal_Log_with.B5 = true := by kernel_rfl
set_option maxHeartbeats 8000000 in
set_option maxRecDepth 100000 in
theorem journal_Log_with.calls (k : Nat) (a0_0 : Int) (P0_1_ : Nat → Prop) (A0_1 : Option Addr) (c0_1 : Nat) (l0_1 : List (S44)) (a0_2 : ByteArray) (a1_0 : Int) (A1_1 : Option Addr) (c1_1 : Nat) (l1_1 : List (S24)) (r1 : Int) (r2 : List (S44)) (r3 : ByteArray) (r4 : Int) (w : World) (hs0_1 : Kd.V k44 44 w w.heap.size (fun k_ => P0_1_ k_) (.slice A0_1 l0_1.length c0_1) l0_1) (hr1_1 : Kd.C k24 w A1_1 l1_1.length l1_1) (hc1_1 : l1_1.length ≤ c1_1) (h : journal_Log_with.f k a0_0 l0_1 a0_2 a1_0 l1_1 = some (r1, r2, r3, r4)) (HT : Tabs w) :
  Calls Tryd.prog 62 #[.agg #[.int .u64 a0_0, .slice A0_1 l0_1.length c0_1, .string a0_2], .agg #[.int .u64 a1_0, .slice A1_1 l1_1.length c1_1]] w fun e w' => ∃ v1_ : Value, e = .returned (.tuple #[.agg #[.int .u64 r1, v1_, .string r3], .int .i64 r4]) ∧ Kd.N k44 44 w' w.heap.size (fun k_ => (P0_1_ k_ ∨ w.heap.size ≤ k_)) v1_ r2 ∧ Below w.heap.size w w' := by
 have hu66 := Tryd.underlying66
 have hu44 := Tryd.underlying44
 have HO0_1 := Ax.mk (show Kd.V k44 44 w w.heap.size (fun k_ => (P0_1_ k_ ∨ w.heap.size ≤ k_)) (.slice A0_1 l0_1.length c0_1) l0_1 from Kd.V_mono hs0_1 (fun k_ hk => .inl hk))
 have HR1_1 := Ax.mk hr1_1
 have HC1_1 := Ax.mk hc1_1
 clear hr1_1 hc1_1
 have HB := Ax.mk (Below.refl w.heap.size w)
 have H : ((journal_closed.f k a1_0 l1_1).bind fun bt137 => (if bt137.2 = 0 then ((step_Step.f l1_1).bind fun t139 => ((step_Group.f l0_1).bind fun t142 => ((some (([(⟨a1_0, t139⟩ : S44)] : List (S44)) : List (S44))).bind fun y145 => (if t142.length + y145.length < 4398046511104 then (if a0_2.size + bt137.1.size ≤ 9223372036854775807 then (some (a1_0, (t142 ++ y145), a0_2 ++ bt137.1, 0)) else (none)) else (none))))) else (some (0, ([] : List (S44)), (⟨#[]⟩ : ByteArray), bt137.2)))) = some (r1, r2, r3, r4) := h
 clear h
 replace H := Option.bind_eq_some_iff.mp H
 obtain ⟨⟨t137, t138⟩, A30, H⟩ := H
 replace H : (if t138 = 0 then ((step_Step.f l1_1).bind fun t139 => ((step_Group.f l0_1).bind fun t142 => ((some (([(⟨a1_0, t139⟩ : S44)] : List (S44)) : List (S44))).bind fun y145 => (if t142.length + y145.length < 4398046511104 then (if a0_2.size + t137.size ≤ 9223372036854775807 then (some (a1_0, (t142 ++ y145), a0_2 ++ t137, 0)) else (none)) else (none))))) else (some (0, ([] : List (S44)), (⟨#[]⟩ : ByteArray), t138))) = some (r1, r2, r3, r4) := H
 have A3 := Ax.mk A30
 clear A30
 by_cases c4 : t138 = 0
 ·rw [if_pos c4] at H
  have c4b0 : (t138 == 0) = true := beq_iff_eq.mpr c4
  have c4b1 : (t138 != 0) = false := bne_eq_false_iff_eq.mpr c4
  clear c4
  replace H := Option.bind_eq_some_iff.mp H
  obtain ⟨t139, A50, H⟩ := H
  replace H : ((step_Group.f l0_1).bind fun t142 => ((some (([(⟨a1_0, t139⟩ : S44)] : List (S44)) : List (S44))).bind fun y145 => (if t142.length + y145.length < 4398046511104 then (if a0_2.size + t137.size ≤ 9223372036854775807 then (some (a1_0, (t142 ++ y145), a0_2 ++ t137, 0)) else (none)) else (none)))) = some (r1, r2, r3, r4) := H
  have A5 := Ax.mk A50
  clear A50
  replace H := Option.bind_eq_some_iff.mp H
  obtain ⟨t142, A60, H⟩ := H
  replace H : ((some (([(⟨a1_0, t139⟩ : S44)] : List (S44)) : List (S44))).bind fun y145 => (if t142.length + y145.length < 4398046511104 then (if a0_2.size + t137.size ≤ 9223372036854775807 then (some (a1_0, (t142 ++ y145), a0_2 ++ t137, 0)) else (none)) else (none))) = some (r1, r2, r3, r4) := H
  have A6 := Ax.mk A60
  clear A60
  obtain ⟨y145, hy145⟩ : ∃ y_ : List (S44), y_ = (([(⟨a1_0, t139⟩ : S44)] : List (S44))) := ⟨_, rfl⟩
  replace H : (if t142.length + y145.length < 4398046511104 then (if a0_2.size + t137.size ≤ 9223372036854775807 then (some (a1_0, (t142 ++ y145), a0_2 ++ t137, 0)) else (none)) else (none)) = some (r1, r2, r3, r4) := by first | (rw [hy145]; with_reducible exact H) | (have H2_ := (Option.bind_some _ _).symm.trans H; rw [hy145]; with_reducible exact H2_) | (have H2_ := (Option.bind_some _ _).symm.trans H; with_reducible exact H2_) | with_reducible exact H | (rw [hy145]; exact H) | exact H
  have Ny145 := Ax.mk hy145
  clear hy145
  by_cases c7 : t142.length + y145.length < 4398046511104
  ·rw [if_pos c7] at H
   have LMc7 := Ax.mk c7
   clear c7
   obtain ⟨y148, hy148⟩ : ∃ y_ : List (S44), y_ = (t142 ++ y145) := ⟨_, rfl⟩
   replace H : (if a0_2.size + t137.size ≤ 9223372036854775807 then (some (a1_0, y148, a0_2 ++ t137, 0)) else (none)) = some (r1, r2, r3, r4) := by first | (rw [hy148]; with_reducible exact H) | (have H2_ := (Option.bind_some _ _).symm.trans H; rw [hy148]; with_reducible exact H2_) | (have H2_ := (Option.bind_some _ _).symm.trans H; with_reducible exact H2_) | with_reducible exact H | (rw [hy148]; exact H) | exact H
   have Ny148 := Ax.mk hy148
   clear hy148
   by_cases c8 : a0_2.size + t137.size ≤ 9223372036854775807
   ·rw [if_pos c8] at H
    have c8b0 := eq_true c8
    have c8b1 : decide (a0_2.size + t137.size ≤ 9223372036854775807) = true := decide_eq_true c8
    try have c8b2 : (9223372036854775807 < a0_2.size + t137.size) = False := eq_false (Nat.not_lt.2 c8)
    simp only [Option.some.injEq, Prod.mk.injEq] at H
    obtain ⟨rfl, rfl, rfl, rfl⟩ := H
    go_enter Tryd.func62, Tryd.ntmps62
    try go_wp2_with (first | ((with_reducible refine gate_dst (N := 2) rfl ?_); refine box_event ?hg (N := 2) ?hd (cs := #[.int .u64 a0_0, .slice A0_1 l0_1.length c0_1, .string a0_2]) (t := 66) ?hr ?_; (case hd => rfl); (case hg => rfl); (case hr => first | (go_simp; done) | (go_simp; rfl)); intro gb134 hg w9 hbox hb; have n0_ := Ax.mk (Kd.V_below (Kd.V_elderB (by exact Kd.V_to HO0_1.out) gb134 (Nat.le_of_eq hg.symm)) hb); have n1_ := Ax.mk (bP bA hb); have n2_ := Ax.mk (hbox); have n3_ := Ax.mk ((ge_new hg : w.heap.size ≤ gb134)); have n4_ := n3_; clear HO0_1; clear HB; have HO0_1 := n0_; have HB := n1_; have BK134 := n2_; have GW134 := n3_; have GE134 := n4_; clear n0_ n1_ n2_ n3_ n4_; clear hb hbox hg) | ((with_reducible refine gate_dst (N := 3) rfl ?_); refine box_event ?hg (N := 3) ?hd (cs := #[.int .u64 a1_0, .slice A1_1 l1_1.length c1_1]) (t := 44) ?hr ?_; (case hd => rfl); (case hg => rfl); (case hr => first | (go_simp; done) | (go_simp; rfl)); intro gb135 hg w10 hbox hb; have n0_ := Ax.mk (Kd.V_below (Kd.V_elderB (by exact Kd.V_to HO0_1.out) gb135 (Nat.le_of_eq hg.symm)) hb); have n1_ := Ax.mk (bB (bT BK134.out) hb); have n2_ := Ax.mk (bP bA hb); have n3_ := Ax.mk (hbox); have n4_ := Ax.mk ((ge_new hg : w.heap.size ≤ gb135)); have n5_ := n4_; have n6_ := Ax.mk ((ne_lt hg BK134.out : gb134 ≠ gb135)); have n7_ := Ax.mk ((ne_gt hg BK134.out : gb135 ≠ gb134)); clear HO0_1; clear BK134; clear HB; have HO0_1 := n0_; have BK134 := n1_; have HB := n2_; have BK135 := n3_; have GW135 := n4_; have GE135 := n5_; have NB134_135 := n6_; have NB135_134 := n7_; clear n0_ n1_ n2_ n3_ n4_ n5_ n6_ n7_; clear hb hbox hg) | ((with_reducible refine gate_dst (N := 4) rfl ?_); refine box_event ?hg (N := 4) ?hd (cs := #[.int .u64 0, .slice none 0 0, .string (⟨#[]⟩ : ByteArray)]) (t := 66) ?hr ?_; (case hd => rfl); (case hg => rfl); (case hr => first | (go_simp; done) | (go_simp; rfl)); intro gb136 hg w11 hbox hb; have n0_ := Ax.mk (Kd.V_below (Kd.V_elderB (by exact Kd.V_to HO0_1.out) gb136 (Nat.le_of_eq hg.symm)) hb); have n1_ := Ax.mk (bB (bT BK134.out) hb); have n2_ := Ax.mk (bB (bT BK135.out) hb); have n3_ := Ax.mk (bP bA hb); have n4_ := Ax.mk (hbox); have n5_ := Ax.mk ((ge_new hg : w.heap.size ≤ gb136)); have n6_ := n5_; have n7_ := Ax.mk ((ne_lt hg BK134.out : gb134 ≠ gb136)); have n8_ := Ax.mk ((ne_gt hg BK134.out : gb136 ≠ gb134)); have n9_ := Ax.mk ((ne_lt hg BK135.out : gb135 ≠ gb136)); have n10_ := Ax.mk ((ne_gt hg BK135.out : gb136 ≠ gb135)); clear HO0_1; clear BK134; clear BK135; clear HB; have HO0_1 := n0_; have BK134 := n1_; have BK135 := n2_; have HB := n3_; have BK136 := n4_; have GW136 := n5_; have GE136 := n6_; have NB134_136 := n7_; have NB136_134 := n8_; have NB135_136 := n9_; have NB136_135 := n10_; clear n0_ n1_ n2_ n3_ n4_ n5_ n6_ n7_ n8_ n9_ n10_; clear hb hbox hg; have hnb12 := NB135_134.out; have hnc12 := NB134_135.out; have hnb13 := NB135_136.out; have hnc13 := NB136_135.out; have hcz14_0 : w11.cell? ⟨gb135, 0, none⟩ = some (.int .u64 a1_0) := (bC BK135.out 0).trans rfl; have hcz14_1 : w11.cell? ⟨gb135, 1, none⟩ = some (.slice A1_1 l1_1.length c1_1) := (bC BK135.out 1).trans rfl; have hfz14_0 := bF BK135.out 0; have hfz14_1 := bF BK135.out 1) | ((with_reducible refine gate_callee (f := 74) rfl ?_); refine goesL_ (some 10) rfl rfl Tryd.func74 (by kernel_rfl) rfl #[.agg #[.int .u64 a1_0, .slice A1_1 l1_1.length c1_1]] rfl (by (try simp only [List.map_toArray, List.map_cons, List.map_nil]); first | done | rfl | (simp only [List.length_drop, List.length_take]; rfl) | (rw [wrap_sum2 (by assumption)]; rfl)) ?_; (with_reducible refine (journal_closed.calls k a1_0 _ _ l1_1 t137 t138 _ ?side1 ?side2 A3.out (HT.below bA)).mono ?_); (case side1 => repeat (first | exact (Kd.C_below HR1_1.out HB.out) | (with_reducible refine Kd.C_alloc ?_ _) | (with_reducible refine Kd.C_drewN ?_ _) | (with_reducible refine Kd.C_drew ?_))); (case side2 => exact HC1_1.out); rintro e w15 ⟨rfl, hb⟩; refine ⟨_, rfl, ?_⟩; have n0_ := Ax.mk (Kd.V_below (by exact Kd.V_to HO0_1.out) hb); have n1_ := Ax.mk (bB (bT BK134.out) hb); have n2_ := Ax.mk (bB (bT BK135.out) hb); have n3_ := Ax.mk (bB (bT BK136.out) hb); have n4_ := Ax.mk (bP bA hb); clear HO0_1; clear BK134; clear BK135; clear BK136; clear HB; have HO0_1 := n0_; have BK134 := n1_; have BK135 := n2_; have BK136 := n3_; have HB := n4_; clear n0_ n1_ n2_ n3_ n4_; (try clear hb); (try clear hb2); (try clear hk); (try clear hi); have hcz16_0 : w15.cell? ⟨gb135, 0, none⟩ = some (.int .u64 a1_0) := (bC BK135.out 0).trans rfl; have hcz16_1 : w15.cell? ⟨gb135, 1, none⟩ = some (.slice A1_1 l1_1.length c1_1) := (bC BK135.out 1).trans rfl; have hfz16_0 := bF BK135.out 0; have hfz16_1 := bF BK135.out 1) | ((with_reducible refine gate_callee (f := 53) rfl ?_); refine goesL_ (some 19) rfl rfl Tryd.func53 (by kernel_rfl) rfl #[.slice A1_1 l1_1.length c1_1] rfl (by (try simp only [List.map_toArray, List.map_cons, List.map_nil]); first | done | rfl | (simp only [List.length_drop, List.length_take]; rfl) | (rw [wrap_sum2 (by assumption)]; rfl)) ?_; (with_reducible refine (step_Step.calls _ _ l1_1 t139 _ ?side1 ?side2 A5.out).mono ?_); (case side1 => repeat (first | exact (Kd.C_below HR1_1.out HB.out) | (with_reducible refine Kd.C_alloc ?_ _) | (with_reducible refine Kd.C_drewN ?_ _) | (with_reducible refine Kd.C_drew ?_))); (case side2 => exact HC1_1.out); rintro e w17 ⟨v140, rfl, ho0, hb⟩; refine ⟨_, rfl, ?_⟩; have n0_ := Ax.mk (Kd.V_elder' (by exact Kd.V_to HO0_1.out) (Kd.R_base ho0) hb); have n1_ := Ax.mk (Kd.R_lower (Kd.R_newM (M := fun k_ => (w.heap.size ≤ k_)) ho0 (bS bA) (fun k_ h_ => h_)) (bS bA)); have n2_ := Ax.mk (bB (bT BK134.out) hb); have n3_ := Ax.mk (bB (bT BK135.out) hb); have n4_ := Ax.mk (bB (bT BK136.out) hb); have n5_ := Ax.mk (bP bA hb); clear HO0_1; clear BK134; clear BK135; clear BK136; clear HB; have HO0_1 := n0_; have HO141 := n1_; have BK134 := n2_; have BK135 := n3_; have BK136 := n4_; have HB := n5_; clear n0_ n1_ n2_ n3_ n4_ n5_; (try clear hb); (try clear hb2); (try clear hk); (try clear hi); (try clear ho0); obtain ⟨Ao18, co18, eo18⟩ := Kd.R_slice HO141.out; subst eo18; have hcz19_0 : w17.cell? ⟨gb135, 0, none⟩ = some (.int .u64 a1_0) := (bC BK135.out 0).trans rfl; have hcz19_1 : w17.cell? ⟨gb135, 1, none⟩ = some (.slice A1_1 l1_1.length c1_1) := (bC BK135.out 1).trans rfl; have hfz19_0 := bF BK135.out 0; have hfz19_1 := bF BK135.out 1))
    have n0_ : Ax (Kd.V k44 44 (w17.setCell ⟨gb135, 1, none⟩ (.slice Ao18 t139.length co18)) w.heap.size (fun k_ => (P0_1_ k_ ∨ w.heap.size ≤ k_) ∧ some k_ ≠ (.slice Ao18 t139.length co18 : Value).ownBlock ∧ k_ ≠ gb134 ∧ k_ ≠ gb135 ∧ k_ ≠ gb136) (.slice A0_1 l0_1.length c0_1) l0_1) := ⟨by apply Kd.V_to; exact Kd.V_mono (Kd.V_far (p := ⟨gb135, 1, none⟩) (Kd.V_mono HO0_1.out (fun k_ hk => (⟨hk, hk.1.1.2⟩ : _ ∧ k_ ≠ gb135))) (fun _ hk => hk.2) (.slice Ao18 t139.length co18)) (fun _ hk => ⟨hk.1.1.1.1.1, ⟨hk.1.2, ⟨hk.1.1.1.1.2, ⟨hk.1.1.1.2, hk.1.1.2⟩⟩⟩⟩)⟩
    have n1_ : Ax (Kd.R k24 24 (w17.setCell ⟨gb135, 1, none⟩ (.slice Ao18 t139.length co18)) w.heap.size (fun k_ => (w.heap.size ≤ k_)) (.slice Ao18 t139.length co18) t139) := ⟨by apply Kd.R_to; exact Kd.R_mono (Kd.R_far (p := ⟨gb135, 1, none⟩) (Kd.R_types HO141.out BK135.out (by decide)) (fun _ hk => hk.2) (.slice Ao18 t139.length co18)) (fun _ hk => hk.1.1)⟩
    have n2_ : Ax ((w17.setCell ⟨gb135, 1, none⟩ (.slice Ao18 t139.length co18)).heap[gb134]? = some (.cells #[.int .u64 a0_0, .slice A0_1 l0_1.length c0_1, .string a0_2] 66 (0, 0))) := ⟨by refine bT ?_; refine bR ?_ NB134_135.out _; refine bT ?_; exact BK134.out⟩
    have n3_ : Ax ((w17.setCell ⟨gb135, 1, none⟩ (.slice Ao18 t139.length co18)).heap[gb135]? = some (.cells #[.int .u64 a1_0, .slice Ao18 t139.length co18] 44 (0, 0))) := ⟨by refine bT ?_; refine bU (cs := #[.int .u64 a1_0, .slice A1_1 l1_1.length c1_1]) ?_ 1 _ rfl; refine bT ?_; exact BK135.out⟩
    have n4_ : Ax ((w17.setCell ⟨gb135, 1, none⟩ (.slice Ao18 t139.length co18)).heap[gb136]? = some (.cells #[.int .u64 0, .slice none 0 0, .string (⟨#[]⟩ : ByteArray)] 66 (0, 0))) := ⟨by refine bT ?_; refine bR ?_ NB136_135.out _; refine bT ?_; exact BK136.out⟩
    have n5_ : Ax (Below w.heap.size w (w17.setCell ⟨gb135, 1, none⟩ (.slice Ao18 t139.length co18))) := ⟨bA⟩
    (try clear HO0_1)
    (try clear HO141)
    (try clear BK134)
    (try clear BK135)
    (try clear BK136)
    (try clear HB)
    generalize (w17.setCell ⟨gb135, 1, none⟩ (.slice Ao18 t139.length co18)) = w20 at n0_ n1_ n2_ n3_ n4_ n5_ ⊢
    have HO0_1 := n0_
    have HO141 := n1_
    have BK134 := n2_
    have BK135 := n3_
    have BK136 := n4_
    have HB := n5_
    clear n0_ n1_ n2_ n3_ n4_ n5_
    have n0_ := Ax.mk (Kd.V_drew HO0_1.out)
    have n1_ := Ax.mk (Kd.R_drew HO141.out)
    have n2_ := Ax.mk (blk_drew BK134.out)
    have n3_ := Ax.mk (blk_drew BK135.out)
    have n4_ := Ax.mk (blk_drew BK136.out)
    have n5_ := Ax.mk (below_drew1 HB.out)
    clear HO0_1
    clear HO141
    clear BK134
    clear BK135
    clear BK136
    clear HB
    have HO0_1 := n0_
    have HO141 := n1_
    have BK134 := n2_
    have BK135 := n3_
    have BK136 := n4_
    have HB := n5_
    clear n0_ n1_ n2_ n3_ n4_ n5_
    refine start_ (n := 15) (S := fun w' => w'.cell? ⟨gb135, 0, none⟩ = some (.int .u64 a1_0) ∧ w'.cell? ⟨gb135, 1, none⟩ = some (.slice Ao18 t139.length co18) ∧ w'.cell? ⟨gb134, 0, none⟩ = some (.int .u64 a0_0) ∧ w'.cell? ⟨gb134, 1, none⟩ = some (.slice A0_1 l0_1.length c0_1) ∧ w'.cell? ⟨gb134, 2, none⟩ = some (.string a0_2)) (ds := []) (TF 0 15) (by kernel_rfl) rfl rfl ⟨(bC BK135.out 0).trans rfl, (bC BK135.out 1).trans rfl, (bC BK134.out 0).trans rfl, (bC BK134.out 1).trans rfl, (bC BK134.out 2).trans rfl⟩ (fun hHeld => ?_); refine with_tabW journal_Log_with.tab5 journal_Log_with.bits5 (fun HT_ HW_ => ?_)
    generalize w20.drew = w21 at HO0_1 HO141 BK134 BK135 BK136 HB hHeld ⊢
    refine pure_ (i := 0) (N := some 21) (v := ?_) (a' := ?_) (TF 1 14) rfl rfl (any_of HT_.out (by kernel_rfl)) (fun _ _ _ h => h) (Or.inl ⟨by rfl, ?_⟩) ?_ ?_
    rotate_left; · intro w'; go_simp; with_reducible rfl
    rotate_left; · simp only [Act.put, sI, sZ, sS, i64_w, i32_w]; rfl
    refine pure_ (i := 2) (N := some 23) (v := ?_) (a' := ?_) (BT 15 5) rfl rfl (any_of HT_.out (by kernel_rfl)) (fun _ _ _ h => h) (Or.inl ⟨by rfl, ?_⟩) ?_ ?_
    rotate_left; · intro w'; go_simp; with_reducible rfl
    rotate_left; · simp only [Act.put, sI, sZ, sS, i64_w, i32_w]; rfl
    refine pure_ (i := 8) (N := some 29) (v := ?_) (a' := ?_) (BT 15 261) rfl rfl (any_of HT_.out (by kernel_rfl)) (fun _ _ _ h => h) (Or.inl ⟨by rfl, ?_⟩) ?_ ?_
    rotate_left; · intro w'; go_simp; with_reducible rfl
    rotate_left; · simp only [Act.put, sI, sZ, sS, i64_w, i32_w]; rfl
    refine pure_ (i := 10) (N := some 31) (v := ?_) (a' := ?_) (BT 15 1285) rfl rfl (any_of HT_.out (by kernel_rfl)) (fun _ _ _ h => h) (Or.inl ⟨by rfl, ?_⟩) ?_ ?_
    rotate_left; · intro w'; go_simp; with_reducible rfl
    rotate_left; · simp only [Act.put, sI, sZ, sS, i64_w, i32_w]; rfl
    refine take_ (i := 1) (N := some 22) (v := ?_) (a' := ?_) (BT 15 1287) rfl rfl (take_ofW HT_.out HW_.out (by kernel_rfl)) (fun _ _ _ h => h) (Or.inl ⟨by rfl, ?_⟩) hHeld ?_ ?_
    rotate_left
    ·rintro w' ⟨s0, s1, s2, s3, s4⟩
     go_simp
     with_reducible rfl
    rotate_left
    ·simp only [Act.put, sI, sZ, sS, i64_w, i32_w]
     rfl
    refine take_ (i := 3) (N := some 24) (v := ?_) (a' := ?_) (BT 15 1295) rfl rfl (take_ofW HT_.out HW_.out (by kernel_rfl)) (fun _ _ _ h => h) (Or.inl ⟨by rfl, ?_⟩) hHeld ?_ ?_
    rotate_left
    ·rintro w' ⟨s0, s1, s2, s3, s4⟩
     go_simp
     with_reducible rfl
    rotate_left
    ·simp only [Act.put, sI, sZ, sS, i64_w, i32_w]
     rfl
    refine take_ (i := 5) (N := some 26) (v := ?_) (a' := ?_) (BT 15 1327) rfl rfl (take_ofW HT_.out HW_.out (by kernel_rfl)) (fun _ _ _ h => h) (Or.inl ⟨by rfl, ?_⟩) hHeld ?_ ?_
    rotate_left
    ·rintro w' ⟨s0, s1, s2, s3, s4⟩
     go_simp
     with_reducible rfl
    rotate_left
    ·simp only [Act.put, sI, sZ, sS, i64_w, i32_w]
     rfl
    refine take_ (i := 9) (N := some 30) (v := ?_) (a' := ?_) (BT 15 1839) rfl rfl (take_ofW HT_.out HW_.out (by kernel_rfl)) (fun _ _ _ h => h) (Or.inl ⟨by rfl, ?_⟩) hHeld ?_ ?_
    rotate_left
    ·rintro w' ⟨s0, s1, s2, s3, s4⟩
     go_simp
     with_reducible rfl
    rotate_left
    ·simp only [Act.put, sI, sZ, sS, i64_w, i32_w]
     rfl
    refine pure_ (i := 11) (N := some 32) (v := ?_) (a' := ?_) (BT 15 3887) rfl rfl (any_of HT_.out (by kernel_rfl)) (fun _ _ _ h => h) (Or.inl ⟨by rfl, ?_⟩) ?_ ?_
    rotate_left; · intro w'; go_simp; with_reducible rfl
    rotate_left; · simp only [Act.put, sI, sZ, sS, i64_w, i32_w]; rfl
    refine join_ (σ := Value × Value) 4 (BT 15 3967) (fun s_ => [(25, s_.1), (27, s_.2)]) (fun s_ w' => (w'.cell? ⟨gb135, 0, none⟩ = some (.int .u64 a1_0) ∧ w'.cell? ⟨gb135, 1, none⟩ = some (.slice Ao18 t139.length co18) ∧ w'.cell? ⟨gb134, 0, none⟩ = some (.int .u64 a0_0) ∧ w'.cell? ⟨gb134, 1, none⟩ = some (.slice A0_1 l0_1.length c0_1) ∧ w'.cell? ⟨gb134, 2, none⟩ = some (.string a0_2)) ∧ (Kd.V k44 44 w' w.heap.size (fun k_ => (P0_1_ k_ ∨ w.heap.size ≤ k_) ∧ some k_ ≠ (s_.1 : Value).ownBlock ∧ some k_ ≠ (s_.2 : Value).ownBlock ∧ k_ ≠ gb134 ∧ k_ ≠ gb135 ∧ k_ ≠ gb136) (.slice A0_1 l0_1.length c0_1) l0_1) ∧ (Kd.N k44 44 w' w.heap.size (fun k_ => (P0_1_ k_ ∨ w.heap.size ≤ k_) ∧ some k_ ≠ (s_.2 : Value).ownBlock ∧ k_ ≠ gb134 ∧ k_ ≠ gb135 ∧ k_ ≠ gb136) s_.1 t142) ∧ (Kd.N k44 44 w' w.heap.size (fun k_ => (P0_1_ k_ ∨ w.heap.size ≤ k_) ∧ some k_ ≠ (s_.1 : Value).ownBlock ∧ k_ ≠ gb134 ∧ k_ ≠ gb135 ∧ k_ ≠ gb136) s_.2 y145) ∧ (w'.heap[gb134]? = some (.cells #[.int .u64 a0_0, .slice A0_1 l0_1.length c0_1, .string a0_2] 66 (0, 0))) ∧ (w'.heap[gb135]? = some (.cells #[.int .u64 a1_0, .slice Ao18 t139.length co18] 44 (0, 0))) ∧ (w'.heap[gb136]? = some (.cells #[.int .u64 0, .slice none 0 0, .string (⟨#[]⟩ : ByteArray)] 66 (0, 0))) ∧ (Below w.heap.size w w')) ?_ ?_
    rotate_left
    ·intro hCont
     refine two_ (i := 4) (j := 6) (Ni := some 25) (Nj := some 27) (BT 15 3903) (BT 15 3951) rfl rfl rfl rfl (two_of HT_.out (by kernel_rfl)) (by decide) (by decide) (fun K hK => ?_) (fun K hK => ?_)
     ·skip
      refine goes_ Tryd.func75 (by kernel_rfl) rfl #[.slice A0_1 l0_1.length c0_1] (by rfl) rfl rfl (by (try simp only [List.map_toArray, List.map_cons, List.map_nil]); first | done | rfl | (simp only [List.length_drop, List.length_take]; rfl) | (rw [wrap_sum2 (by assumption)]; rfl)) ?_
      with_reducible refine (step_Group.calls (fun k_ => ((P0_1_ k_ ∨ w.heap.size ≤ k_) ∧ (some k_ ≠ (.slice Ao18 t139.length co18 : Value).ownBlock ∧ (k_ ≠ gb134 ∧ (k_ ≠ gb135 ∧ k_ ≠ gb136))))) _ _ l0_1 t142 _ ?side1 A6.out).mono ?_
      (case side1 => exact HO0_1.out)
      rintro e w22 ⟨v143, rfl, ho0, hb⟩
      refine ⟨_, rfl, ?_⟩
      have n0_ := Ax.mk (Kd.V_elder' (by exact Kd.V_to HO0_1.out) (Kd.N_base ho0) hb)
      have n1_ := Ax.mk (Kd.R_below (by exact Kd.R_to HO141.out) hb)
      have n2_ := Ax.mk (Kd.N_lower (Kd.N_mono (ok' := fun k_ => (P0_1_ k_ ∨ w.heap.size ≤ k_) ∧ some k_ ≠ (.slice Ao18 t139.length co18 : Value).ownBlock ∧ k_ ≠ gb134 ∧ k_ ≠ gb135 ∧ k_ ≠ gb136) ho0 (fun k_ hk_ => ⟨Or.elim hk_ (fun hs_ => hs_.1) (fun hn_ => (.inr (Nat.le_trans (bS bA) hn_))), Or.elim hk_ (fun hs_ => hs_.2.1) (fun hn_ => (Kd.fresh' (Kd.R_lt (by exact Kd.R_to HO141.out)) k_ hn_)), Or.elim hk_ (fun hs_ => hs_.2.2.1) (fun hn_ => (Kd.freshB (g := gb134) (o := .cells #[.int .u64 a0_0, .slice A0_1 l0_1.length c0_1, .string a0_2] 66 (0, 0)) (bT BK134.out) k_ hn_)), Or.elim hk_ (fun hs_ => hs_.2.2.2.1) (fun hn_ => (Kd.freshB (g := gb135) (o := .cells #[.int .u64 a1_0, .slice Ao18 t139.length co18] 44 (0, 0)) (bT BK135.out) k_ hn_)), Or.elim hk_ (fun hs_ => hs_.2.2.2.2) (fun hn_ => (Kd.freshB (g := gb136) (o := .cells #[.int .u64 0, .slice none 0 0, .string (⟨#[]⟩ : ByteArray)] 66 (0, 0)) (bT BK136.out) k_ hn_))⟩)) (bS bA))
      have n3_ := Ax.mk (bB (bT BK134.out) hb)
      have n4_ := Ax.mk (bB (bT BK135.out) hb)
      have n5_ := Ax.mk (bB (bT BK136.out) hb)
      have n6_ := Ax.mk (bP bA hb)
      clear HO0_1
      clear HO141
      clear BK134
      clear BK135
      clear BK136
      clear HB
      have HO0_1 := n0_
      have HO141 := n1_
      have HO144 := n2_
      have BK134 := n3_
      have BK135 := n4_
      have BK136 := n5_
      have HB := n6_
      clear n0_ n1_ n2_ n3_ n4_ n5_ n6_
      (try clear hb)
      (try clear hb2)
      (try clear hk)
      (try clear hi)
      (try clear ho0)
      refine hK.out _ _ ⟨(bC BK135.out 0).trans rfl, (bC BK135.out 1).trans rfl, (bC BK134.out 0).trans rfl, (bC BK134.out 1).trans rfl, (bC BK134.out 2).trans rfl⟩ (fun hHeld => ?_)
      clear hK K
      refine norm_ (a' := ?_) ?_ ?_
      rotate_left
      ·show Act.put _ (some 25) _ = _
       simp only [Act.put, sI, sZ, sS, i64_w, i32_w]
       rfl
      refine one_ (i := 6) (N := some 27) (BT 15 3967) rfl rfl (one_of HT_.out (by kernel_rfl)) (by decide) (fun K hK => ?_)
      refine Kd.N_lit_step k44 _ 44 ?hg (N' := 27) ?hd (xs := ([(⟨a1_0, t139⟩ : S44)] : List (S44))) (inner := [.int .u64 a1_0, .slice Ao18 t139.length co18]) (ok := (fun k_ => (P0_1_ k_ ∨ w.heap.size ≤ k_) ∧ some k_ ≠ (v143 : Value).ownBlock ∧ k_ ≠ gb134 ∧ k_ ≠ gb135 ∧ k_ ≠ gb136)) (okp := (fun k_ => (P0_1_ k_ ∨ w.heap.size ≤ k_) ∧ some k_ ≠ (v143 : Value).ownBlock ∧ k_ ≠ gb134 ∧ k_ ≠ gb135 ∧ k_ ≠ gb136)) ?hr ?hp (fun _ hk => hk) ((show ∀ k_, w22.heap.size ≤ k_ → (fun k_ => (P0_1_ k_ ∨ w.heap.size ≤ k_) ∧ some k_ ≠ (v143 : Value).ownBlock ∧ k_ ≠ gb134 ∧ k_ ≠ gb135 ∧ k_ ≠ gb136) k_ from fun k_ hk => ⟨(.inr (Nat.le_trans (bS bA) hk)), Kd.fresh' (Kd.N_lt (by exact Kd.N_to HO144.out)) k_ hk, Kd.freshB (g := gb134) (o := .cells #[.int .u64 a0_0, .slice A0_1 l0_1.length c0_1, .string a0_2] 66 (0, 0)) (bT BK134.out) k_ hk, Kd.freshB (g := gb135) (o := .cells #[.int .u64 a1_0, .slice Ao18 t139.length co18] 44 (0, 0)) (bT BK135.out) k_ hk, Kd.freshB (g := gb136) (o := .cells #[.int .u64 0, .slice none 0 0, .string (⟨#[]⟩ : ByteArray)] 66 (0, 0)) (bT BK136.out) k_ hk⟩) _ (Nat.le_refl _)) (Below.refl _ _) (Nat.le_refl _) (by simp) ?_; (case hd => rfl); (case hg => rfl); (case hr => first | (go_simp; done) | (go_simp; rfl)); (case hp => exact (Reps.c2 (show Kd.FK k44 _ _ (⟨a1_0, t139⟩ : S44) [.int .u64 a1_0, .slice Ao18 t139.length co18] from (k44_mkF _ _ (⟨a1_0, t139⟩ : S44) (Kd.R_reads' (Kd.R_mono (ok' := (fun k_ => (P0_1_ k_ ∨ w.heap.size ≤ k_) ∧ some k_ ≠ (v143 : Value).ownBlock ∧ k_ ≠ gb134 ∧ k_ ≠ gb135 ∧ k_ ≠ gb136)) (Kd.R_types (Kd.R_types (Kd.R_types (Kd.R_apart' (HO141.out) (Kd.N_typed HO144.out) (by decide)) BK134.out (by decide)) BK135.out (by decide)) BK136.out (by decide)) (fun k_ hk => ⟨(.inr (hk.1.1.1.1)), ⟨hk.1.1.1.2, ⟨hk.1.1.2, ⟨hk.1.2, hk.2⟩⟩⟩⟩))).2.1 (Kd.R_F (Kd.R_mono (ok' := (fun k_ => (P0_1_ k_ ∨ w.heap.size ≤ k_) ∧ some k_ ≠ (v143 : Value).ownBlock ∧ k_ ≠ gb134 ∧ k_ ≠ gb135 ∧ k_ ≠ gb136)) (Kd.R_types (Kd.R_types (Kd.R_types (Kd.R_apart' (HO141.out) (Kd.N_typed HO144.out) (by decide)) BK134.out (by decide)) BK135.out (by decide)) BK136.out (by decide)) (fun k_ hk => ⟨(.inr (hk.1.1.1.1)), ⟨hk.1.1.1.2, ⟨hk.1.1.2, ⟨hk.1.2, hk.2⟩⟩⟩⟩))))) (Reps.none _ _)))
      intro v146 w23 ho24 hb hg_ hnew_
      clear hg_ hnew_
      (first | rw [← Ny145.out] at ho24 | (simp only [Int.reduceToNat] at ho24; rw [← Ny145.out] at ho24))
      have n0_ := Ax.mk (Kd.V_elder' (by exact Kd.V_to HO0_1.out) (Kd.N_base ho24) hb)
      have n1_ := Ax.mk (Kd.N_elder' (by exact Kd.N_to HO144.out) (Kd.N_base ho24) hb)
      have n2_ := Ax.mk (Kd.N_lower ho24 (bS bA))
      have n3_ := Ax.mk (bB (bT BK134.out) hb)
      have n4_ := Ax.mk (bB (bT BK135.out) hb)
      have n5_ := Ax.mk (bB (bT BK136.out) hb)
      have n6_ := Ax.mk (bP bA hb)
      clear HO0_1
      clear HO144
      clear BK134
      clear BK135
      clear BK136
      clear HB
      clear HO141
      have HO0_1 := n0_
      have HO144 := n1_
      have HO147 := n2_
      have BK134 := n3_
      have BK135 := n4_
      have BK136 := n5_
      have HB := n6_
      clear n0_ n1_ n2_ n3_ n4_ n5_ n6_
      clear hb ho24
      refine hK.out _ _ ⟨(bC BK135.out 0).trans rfl, (bC BK135.out 1).trans rfl, (bC BK134.out 0).trans rfl, (bC BK134.out 1).trans rfl, (bC BK134.out 2).trans rfl⟩ (fun hHeld => ?_)
      clear hK K
      refine norm_ (a' := ?_) ?_ ?_
      rotate_left
      ·show Act.put _ (some 27) _ = _
       simp only [Act.put, sI, sZ, sS, i64_w, i32_w]
       rfl
      exact norm_ (by simp only [putAll, Act.put, sI, sZ, sS]) (hCont (v143, v146) _ ⟨hHeld, (by apply Kd.V_to; exact Kd.V_mono HO0_1.out (fun _ hk => ⟨hk.1.1.1, ⟨hk.1.2, ⟨hk.2, ⟨hk.1.1.2.2.1, ⟨hk.1.1.2.2.2.1, hk.1.1.2.2.2.2⟩⟩⟩⟩⟩)), (by apply Kd.N_to; exact Kd.N_mono HO144.out (fun _ hk => ⟨hk.1.1, ⟨hk.2, ⟨hk.1.2.2.1, ⟨hk.1.2.2.2.1, hk.1.2.2.2.2⟩⟩⟩⟩)), (by exact Kd.N_to HO147.out), (bT BK134.out), (bT BK135.out), (bT BK136.out), bA⟩)
     ·skip
      refine Kd.N_lit_step k44 _ 44 ?hg (N' := 27) ?hd (xs := ([(⟨a1_0, t139⟩ : S44)] : List (S44))) (inner := [.int .u64 a1_0, .slice Ao18 t139.length co18]) (ok := (fun k_ => (P0_1_ k_ ∨ w.heap.size ≤ k_) ∧ k_ ≠ gb134 ∧ k_ ≠ gb135 ∧ k_ ≠ gb136)) (okp := (fun k_ => (P0_1_ k_ ∨ w.heap.size ≤ k_) ∧ k_ ≠ gb134 ∧ k_ ≠ gb135 ∧ k_ ≠ gb136)) ?hr ?hp (fun _ hk => hk) ((show ∀ k_, w21.heap.size ≤ k_ → (fun k_ => (P0_1_ k_ ∨ w.heap.size ≤ k_) ∧ k_ ≠ gb134 ∧ k_ ≠ gb135 ∧ k_ ≠ gb136) k_ from fun k_ hk => ⟨(.inr (Nat.le_trans (bS bA) hk)), Kd.freshB (g := gb134) (o := .cells #[.int .u64 a0_0, .slice A0_1 l0_1.length c0_1, .string a0_2] 66 (0, 0)) (bT BK134.out) k_ hk, Kd.freshB (g := gb135) (o := .cells #[.int .u64 a1_0, .slice Ao18 t139.length co18] 44 (0, 0)) (bT BK135.out) k_ hk, Kd.freshB (g := gb136) (o := .cells #[.int .u64 0, .slice none 0 0, .string (⟨#[]⟩ : ByteArray)] 66 (0, 0)) (bT BK136.out) k_ hk⟩) _ (Nat.le_refl _)) (Below.refl _ _) (Nat.le_refl _) (by simp) ?_; (case hd => rfl); (case hg => rfl); (case hr => first | (go_simp; done) | (go_simp; rfl)); (case hp => exact (Reps.c2 (show Kd.FK k44 _ _ (⟨a1_0, t139⟩ : S44) [.int .u64 a1_0, .slice Ao18 t139.length co18] from (k44_mkF _ _ (⟨a1_0, t139⟩ : S44) (Kd.R_reads' (Kd.R_mono (ok' := (fun k_ => (P0_1_ k_ ∨ w.heap.size ≤ k_) ∧ k_ ≠ gb134 ∧ k_ ≠ gb135 ∧ k_ ≠ gb136)) (Kd.R_types (Kd.R_types (Kd.R_types (HO141.out) BK134.out (by decide)) BK135.out (by decide)) BK136.out (by decide)) (fun k_ hk => ⟨(.inr (hk.1.1.1)), ⟨hk.1.1.2, ⟨hk.1.2, hk.2⟩⟩⟩))).2.1 (Kd.R_F (Kd.R_mono (ok' := (fun k_ => (P0_1_ k_ ∨ w.heap.size ≤ k_) ∧ k_ ≠ gb134 ∧ k_ ≠ gb135 ∧ k_ ≠ gb136)) (Kd.R_types (Kd.R_types (Kd.R_types (HO141.out) BK134.out (by decide)) BK135.out (by decide)) BK136.out (by decide)) (fun k_ hk => ⟨(.inr (hk.1.1.1)), ⟨hk.1.1.2, ⟨hk.1.2, hk.2⟩⟩⟩))))) (Reps.none _ _)))
      intro v146 w22 ho23 hb hg_ hnew_
      clear hg_ hnew_
      (first | rw [← Ny145.out] at ho23 | (simp only [Int.reduceToNat] at ho23; rw [← Ny145.out] at ho23))
      have n0_ := Ax.mk (Kd.V_elder' (by exact Kd.V_to HO0_1.out) (Kd.N_base ho23) hb)
      have n1_ := Ax.mk (Kd.N_lower ho23 (bS bA))
      have n2_ := Ax.mk (bB (bT BK134.out) hb)
      have n3_ := Ax.mk (bB (bT BK135.out) hb)
      have n4_ := Ax.mk (bB (bT BK136.out) hb)
      have n5_ := Ax.mk (bP bA hb)
      clear HO0_1
      clear BK134
      clear BK135
      clear BK136
      clear HB
      clear HO141
      have HO0_1 := n0_
      have HO147 := n1_
      have BK134 := n2_
      have BK135 := n3_
      have BK136 := n4_
      have HB := n5_
      clear n0_ n1_ n2_ n3_ n4_ n5_
      clear hb ho23
      refine hK.out _ _ ⟨(bC BK135.out 0).trans rfl, (bC BK135.out 1).trans rfl, (bC BK134.out 0).trans rfl, (bC BK134.out 1).trans rfl, (bC BK134.out 2).trans rfl⟩ (fun hHeld => ?_)
      clear hK K
      refine norm_ (a' := ?_) ?_ ?_
      rotate_left
      ·show Act.put _ (some 27) _ = _
       simp only [Act.put, sI, sZ, sS, i64_w, i32_w]
       rfl
      refine one_ (i := 4) (N := some 25) (BT 15 3967) rfl rfl (one_of HT_.out (by kernel_rfl)) (by decide) (fun K hK => ?_)
      refine goes_ Tryd.func75 (by kernel_rfl) rfl #[.slice A0_1 l0_1.length c0_1] (by rfl) rfl rfl (by (try simp only [List.map_toArray, List.map_cons, List.map_nil]); first | done | rfl | (simp only [List.length_drop, List.length_take]; rfl) | (rw [wrap_sum2 (by assumption)]; rfl)) ?_
      with_reducible refine (step_Group.calls (fun k_ => ((P0_1_ k_ ∨ w.heap.size ≤ k_) ∧ (k_ ≠ gb134 ∧ (k_ ≠ gb135 ∧ (k_ ≠ gb136 ∧ some k_ ≠ (v146 : Value).ownBlock))))) _ _ l0_1 t142 _ ?side1 A6.out).mono ?_
      (case side1 => exact (Kd.V_mono (ok' := fun k_ => ((P0_1_ k_ ∨ w.heap.size ≤ k_) ∧ (k_ ≠ gb134 ∧ (k_ ≠ gb135 ∧ (k_ ≠ gb136 ∧ some k_ ≠ (v146 : Value).ownBlock))))) (HO0_1.out) (fun k_ hk_ => ⟨hk_.1.1, ⟨hk_.1.2.2.1, ⟨hk_.1.2.2.2.1, ⟨hk_.1.2.2.2.2, hk_.2⟩⟩⟩⟩)))
      rintro e w24 ⟨v143, rfl, ho0, hb⟩
      refine ⟨_, rfl, ?_⟩
      have n0_ := Ax.mk (Kd.V_elder' (by exact Kd.V_to HO0_1.out) (Kd.N_base ho0) hb)
      have n1_ := Ax.mk (Kd.N_elder' (by exact Kd.N_to HO147.out) (Kd.N_base ho0) hb)
      have n2_ := Ax.mk (Kd.N_lower (Kd.N_mono (ok' := fun k_ => (P0_1_ k_ ∨ w.heap.size ≤ k_) ∧ some k_ ≠ (v146 : Value).ownBlock ∧ k_ ≠ gb134 ∧ k_ ≠ gb135 ∧ k_ ≠ gb136) ho0 (fun k_ hk_ => ⟨Or.elim hk_ (fun hs_ => hs_.1) (fun hn_ => (.inr (Nat.le_trans (bS bA) hn_))), Or.elim hk_ (fun hs_ => hs_.2.2.2.2) (fun hn_ => (Kd.fresh' (Kd.N_lt (by exact Kd.N_to HO147.out)) k_ hn_)), Or.elim hk_ (fun hs_ => hs_.2.1) (fun hn_ => (Kd.freshB (g := gb134) (o := .cells #[.int .u64 a0_0, .slice A0_1 l0_1.length c0_1, .string a0_2] 66 (0, 0)) (bT BK134.out) k_ hn_)), Or.elim hk_ (fun hs_ => hs_.2.2.1) (fun hn_ => (Kd.freshB (g := gb135) (o := .cells #[.int .u64 a1_0, .slice Ao18 t139.length co18] 44 (0, 0)) (bT BK135.out) k_ hn_)), Or.elim hk_ (fun hs_ => hs_.2.2.2.1) (fun hn_ => (Kd.freshB (g := gb136) (o := .cells #[.int .u64 0, .slice none 0 0, .string (⟨#[]⟩ : ByteArray)] 66 (0, 0)) (bT BK136.out) k_ hn_))⟩)) (bS bA))
      have n3_ := Ax.mk (bB (bT BK134.out) hb)
      have n4_ := Ax.mk (bB (bT BK135.out) hb)
      have n5_ := Ax.mk (bB (bT BK136.out) hb)
      have n6_ := Ax.mk (bP bA hb)
      clear HO0_1
      clear HO147
      clear BK134
      clear BK135
      clear BK136
      clear HB
      have HO0_1 := n0_
      have HO147 := n1_
      have HO144 := n2_
      have BK134 := n3_
      have BK135 := n4_
      have BK136 := n5_
      have HB := n6_
      clear n0_ n1_ n2_ n3_ n4_ n5_ n6_
      (try clear hb)
      (try clear hb2)
      (try clear hk)
      (try clear hi)
      (try clear ho0)
      refine hK.out _ _ ⟨(bC BK135.out 0).trans rfl, (bC BK135.out 1).trans rfl, (bC BK134.out 0).trans rfl, (bC BK134.out 1).trans rfl, (bC BK134.out 2).trans rfl⟩ (fun hHeld => ?_)
      clear hK K
      refine norm_ (a' := ?_) ?_ ?_
      rotate_left
      ·show Act.put _ (some 25) _ = _
       simp only [Act.put, sI, sZ, sS, i64_w, i32_w]
       rfl
      exact norm_ (by simp only [putAll, Act.put, sI, sZ, sS]) (hCont (v143, v146) _ ⟨hHeld, (by apply Kd.V_to; exact Kd.V_mono HO0_1.out (fun _ hk => ⟨hk.1.1.1, ⟨hk.2, ⟨hk.1.2, ⟨hk.1.1.2.2.1, ⟨hk.1.1.2.2.2.1, hk.1.1.2.2.2.2⟩⟩⟩⟩⟩)), (by exact Kd.N_to HO144.out), (by apply Kd.N_to; exact Kd.N_mono HO147.out (fun _ hk => ⟨hk.1.1, ⟨hk.2, ⟨hk.1.2.1, ⟨hk.1.2.2.1, hk.1.2.2.2⟩⟩⟩⟩)), (bT BK134.out), (bT BK135.out), (bT BK136.out), bA⟩)
    rintro ⟨v143, v146⟩ w25 ⟨hS_, h0_, h1_, h2_, h3_, h4_, h5_, h6_⟩
    have n0_ : Ax (Kd.V k44 44 w25 w.heap.size (fun k_ => (P0_1_ k_ ∨ w.heap.size ≤ k_) ∧ some k_ ≠ (v143 : Value).ownBlock ∧ some k_ ≠ (v146 : Value).ownBlock ∧ k_ ≠ gb134 ∧ k_ ≠ gb135 ∧ k_ ≠ gb136) (.slice A0_1 l0_1.length c0_1) l0_1) := ⟨h0_⟩
    have n1_ : Ax (Kd.N k44 44 w25 w.heap.size (fun k_ => (P0_1_ k_ ∨ w.heap.size ≤ k_) ∧ some k_ ≠ (v146 : Value).ownBlock ∧ k_ ≠ gb134 ∧ k_ ≠ gb135 ∧ k_ ≠ gb136) v143 t142) := ⟨h1_⟩
    have n2_ : Ax (Kd.N k44 44 w25 w.heap.size (fun k_ => (P0_1_ k_ ∨ w.heap.size ≤ k_) ∧ some k_ ≠ (v143 : Value).ownBlock ∧ k_ ≠ gb134 ∧ k_ ≠ gb135 ∧ k_ ≠ gb136) v146 y145) := ⟨h2_⟩
    have n3_ : Ax (w25.heap[gb134]? = some (.cells #[.int .u64 a0_0, .slice A0_1 l0_1.length c0_1, .string a0_2] 66 (0, 0))) := ⟨h3_⟩
    have n4_ : Ax (w25.heap[gb135]? = some (.cells #[.int .u64 a1_0, .slice Ao18 t139.length co18] 44 (0, 0))) := ⟨h4_⟩
    have n5_ : Ax (w25.heap[gb136]? = some (.cells #[.int .u64 0, .slice none 0 0, .string (⟨#[]⟩ : ByteArray)] 66 (0, 0))) := ⟨h5_⟩
    have n6_ : Ax (Below w.heap.size w w25) := ⟨h6_⟩
    clear HO0_1
    clear HO141
    clear BK134
    clear BK135
    clear BK136
    clear HB
    clear h0_ h1_ h2_ h3_ h4_ h5_ h6_
    have HO0_1 := n0_
    have HO144 := n1_
    have HO147 := n2_
    have BK134 := n3_
    have BK135 := n4_
    have BK136 := n5_
    have HB := n6_
    clear n0_ n1_ n2_ n3_ n4_ n5_ n6_
    have hHeld : w25.cell? ⟨gb135, 0, none⟩ = some (.int .u64 a1_0) ∧ w25.cell? ⟨gb135, 1, none⟩ = some (.slice Ao18 t139.length co18) ∧ w25.cell? ⟨gb134, 0, none⟩ = some (.int .u64 a0_0) ∧ w25.cell? ⟨gb134, 1, none⟩ = some (.slice A0_1 l0_1.length c0_1) ∧ w25.cell? ⟨gb134, 2, none⟩ = some (.string a0_2) := hS_
    obtain ⟨Ao27, co27, eo27⟩ := Kd.N_slice HO147.out
    (first | subst eo27 | (injection eo27 with f1_ f2_ f3_; have f4_ := f1_.symm; have f5_ := f3_.symm; clear f1_ f2_ f3_; subst f4_; subst f5_))
    refine norm_ (a' := ?_) ?_ ?_
    rotate_left
    ·simp only [putAll, Act.put, sI, sZ, sS]
     rfl
    refine one_ (i := 7) (N := some 28) (TF 12 3) rfl rfl (one_of HT_.out (by kernel_rfl)) (by decide) (fun K hK => ?_)
    refine Kd.N_append_rows_step k44 (w0 := w) w.heap.size (by rfl) (.tmp 25) (.tmp 27) 37 44 (.agg #[(.int .u64 0), (.slice none 0 0)]) 32 rfl Tryd.underlying37 info44 rfl (by decide) (by omega) v143 t142 y145 _ _ _ (fun k_ => (P0_1_ k_ ∨ w.heap.size ≤ k_) ∧ k_ ≠ gb134 ∧ k_ ≠ gb135 ∧ k_ ≠ gb136) (fun k_ => ((fun k_ => (P0_1_ k_ ∨ w.heap.size ≤ k_) ∧ k_ ≠ gb134 ∧ k_ ≠ gb135 ∧ k_ ≠ gb136)) k_ ∧ some k_ ≠ (v143 : Value).ownBlock) rfl rfl ?aO ?aR (fun _ hk => hk) ?aF ?aB ?aS ?aL ?_
    (case aR => exact (by skip; exact Kd.N_F (Kd.N_mono (ok' := (fun k_ => ((fun k_ => (P0_1_ k_ ∨ w.heap.size ≤ k_) ∧ k_ ≠ gb134 ∧ k_ ≠ gb135 ∧ k_ ≠ gb136)) k_ ∧ some k_ ≠ (v143 : Value).ownBlock)) (HO147.out) (fun k_ hk => ⟨⟨hk.1, ⟨hk.2.2.1, ⟨hk.2.2.2.1, hk.2.2.2.2⟩⟩⟩, hk.2.1⟩))))
    (case aB => exact bA)
    (case aF => exact (fun k_ hk => ⟨(.inr (Nat.le_trans (bS bA) hk)), Kd.freshB (g := gb134) (o := .cells #[.int .u64 a0_0, .slice A0_1 l0_1.length c0_1, .string a0_2] 66 (0, 0)) (bT BK134.out) k_ hk, Kd.freshB (g := gb135) (o := .cells #[.int .u64 a1_0, .slice Ao18 t139.length co18] 44 (0, 0)) (bT BK135.out) k_ hk, Kd.freshB (g := gb136) (o := .cells #[.int .u64 0, .slice none 0 0, .string (⟨#[]⟩ : ByteArray)] 66 (0, 0)) (bT BK136.out) k_ hk⟩))
    (case aO => exact (by apply Kd.N_to; exact Kd.N_mono HO144.out (fun _ hk => ⟨hk.1, ⟨hk.2.2.1, ⟨hk.2.2.2.1, hk.2.2.2.2⟩⟩⟩)))
    (case aS => exact (bS bA))
    (case aL => have := LMc7.out; omega)
    intro v149 w26 ho hb hg hat
    rw [← Ny148.out] at ho
    have n0_ := Ax.mk (Kd.V_afterv (ok := (fun k_ => (P0_1_ k_ ∨ w.heap.size ≤ k_) ∧ some k_ ≠ (.slice Ao27 y145.length co27 : Value).ownBlock ∧ k_ ≠ gb134 ∧ k_ ≠ gb135 ∧ k_ ≠ gb136)) (by apply Kd.V_to; exact Kd.V_mono HO0_1.out (fun _ hk => ⟨⟨hk.1, ⟨hk.2.2.1, ⟨hk.2.2.2.1, ⟨hk.2.2.2.2.1, hk.2.2.2.2.2⟩⟩⟩⟩, hk.2.1⟩)) hg hat)
    have n1_ := Ax.mk (blk_grown (g := gb134) (o := .cells #[.int .u64 a0_0, .slice A0_1 l0_1.length c0_1, .string a0_2] 66 (0, 0)) (bT BK134.out) hg (Kd.N_ne HO144.out BK134.out (by decide)))
    have n2_ := Ax.mk (blk_grown (g := gb135) (o := .cells #[.int .u64 a1_0, .slice Ao18 t139.length co18] 44 (0, 0)) (bT BK135.out) hg (Kd.N_away HO144.out (fun _ hk => hk.2.2.2.1)))
    have n3_ := Ax.mk (blk_grown (g := gb136) (o := .cells #[.int .u64 0, .slice none 0 0, .string (⟨#[]⟩ : ByteArray)] 66 (0, 0)) (bT BK136.out) hg (Kd.N_ne HO144.out BK136.out (by decide)))
    have n4_ := Ax.mk (Kd.N_afterv (ok := (fun k_ => (P0_1_ k_ ∨ w.heap.size ≤ k_) ∧ k_ ≠ gb134 ∧ k_ ≠ gb135 ∧ k_ ≠ gb136)) (by apply Kd.N_to; exact Kd.N_mono HO147.out (fun _ hk => ⟨⟨hk.1, ⟨hk.2.2.1, ⟨hk.2.2.2.1, hk.2.2.2.2⟩⟩⟩, hk.2.1⟩)) hg hat)
    have n5_ := Ax.mk (hb)
    have n6_ := Ax.mk (ho)
    clear HO0_1
    clear BK134
    clear BK135
    clear BK136
    clear HO147
    clear HB
    clear HO144
    have HO0_1 := n0_
    have BK134 := n1_
    have BK135 := n2_
    have BK136 := n3_
    have HO147 := n4_
    have HB := n5_
    have HO150 := n6_
    clear n0_ n1_ n2_ n3_ n4_ n5_ n6_
    clear ho hb hg hat
    obtain ⟨Ao28, co28, eo28⟩ := Kd.N_slice HO150.out
    (first | subst eo28 | (injection eo28 with f1_ f2_ f3_; have f4_ := f1_.symm; have f5_ := f3_.symm; clear f1_ f2_ f3_; subst f4_; subst f5_))
    refine hK.out _ _ ⟨(bC BK135.out 0).trans rfl, (bC BK135.out 1).trans rfl, (bC BK134.out 0).trans rfl, (bC BK134.out 1).trans rfl, (bC BK134.out 2).trans rfl⟩ (fun hHeld => ?_)
    clear hK K
    refine norm_ (a' := ?_) ?_ ?_
    rotate_left
    ·show Act.put _ (some 28) _ = _
     simp only [Act.put, sI, sZ, sS, i64_w, i32_w]
     rfl
    refine pure_ (i := 12) (N := some 33) (v := ?_) (a' := ?_) (TF 13 2) rfl rfl (any_of HT_.out (by kernel_rfl)) (fun _ _ _ h => h) (Or.inl ⟨by rfl, ?_⟩) ?_ ?_
    rotate_left; · intro w'; go_simp; with_reducible rfl
    rotate_left; · simp only [Act.put, sI, sZ, sS, i64_w, i32_w]; rfl
    refine one_ (i := 13) (N := none) (TF 14 1) rfl rfl (one_of HT_.out (by kernel_rfl)) (by decide) (fun K hK => ?_)
    have hs29 : w26.cell? ⟨gb136, 0, none⟩ = some (.int .u64 0) := (bC BK136.out 0).trans rfl
    have hfs29 := bF BK136.out 0
    have hns29_0 := NB134_136.out
    have hns29_1 := NB135_136.out
    have hms29_0 := NB136_134.out
    have hms29_1 := NB136_135.out
    have hs30 : w26.cell? ⟨gb136, 1, none⟩ = some (.slice none 0 0) := (bC BK136.out 1).trans rfl
    have hfs30 := bF BK136.out 1
    have hns30_0 := NB134_136.out
    have hns30_1 := NB135_136.out
    have hms30_0 := NB136_134.out
    have hms30_1 := NB136_135.out
    have hs31 : w26.cell? ⟨gb136, 2, none⟩ = some (.string (⟨#[]⟩ : ByteArray)) := (bC BK136.out 2).trans rfl
    have hfs31 := bF BK136.out 2
    have hns31_0 := NB134_136.out
    have hns31_1 := NB135_136.out
    have hms31_0 := NB136_134.out
    have hms31_1 := NB136_135.out
    refine skip_ (w1 := ?_) (by rfl) rfl ?_ ?_
    rotate_left
    ·go_simp
     rfl
    refine hK.out _ _ ⟨((cell_far (p := ⟨gb136, _, none⟩) NB135_136.out _).trans (((cell_far (p := ⟨gb136, _, none⟩) NB135_136.out _).trans (((cell_far (p := ⟨gb136, _, none⟩) NB135_136.out _).trans (hHeld.1)))))), ((cell_far (p := ⟨gb136, _, none⟩) NB135_136.out _).trans (((cell_far (p := ⟨gb136, _, none⟩) NB135_136.out _).trans (((cell_far (p := ⟨gb136, _, none⟩) NB135_136.out _).trans (hHeld.2.1)))))), ((cell_far (p := ⟨gb136, _, none⟩) NB134_136.out _).trans (((cell_far (p := ⟨gb136, _, none⟩) NB134_136.out _).trans (((cell_far (p := ⟨gb136, _, none⟩) NB134_136.out _).trans (hHeld.2.2.1)))))), ((cell_far (p := ⟨gb136, _, none⟩) NB134_136.out _).trans (((cell_far (p := ⟨gb136, _, none⟩) NB134_136.out _).trans (((cell_far (p := ⟨gb136, _, none⟩) NB134_136.out _).trans (hHeld.2.2.2.1)))))), ((cell_far (p := ⟨gb136, _, none⟩) NB134_136.out _).trans (((cell_far (p := ⟨gb136, _, none⟩) NB134_136.out _).trans (((cell_far (p := ⟨gb136, _, none⟩) NB134_136.out _).trans (hHeld.2.2.2.2))))))⟩ (fun hHeld => ?_)
    clear hK K
    refine pure_ (i := 14) (N := some 5) (v := ?_) (a' := ?_) (TF 15 0) rfl rfl (any_of HT_.out (by kernel_rfl)) (fun _ _ _ h => h) (Or.inl ⟨by rfl, ?_⟩) ?_ ?_
    rotate_left; · intro w'; go_simp; with_reducible rfl
    rotate_left; · simp only [Act.put, sI, sZ, sS, i64_w, i32_w]; rfl
    refine done_ (done_of HT_.out (by kernel_rfl)) ?_
    try go_wp2
    refine bodyPost_ret (results_ct rfl _ _ gb136 66 #[.int .u64 a1_0, .slice Ao28 y148.length co28, .string (a0_2 ++ t137)] (0, 0) _ rfl (by refine bT ?_; refine bU (cs := #[.int .u64 a1_0, .slice Ao28 y148.length co28, .string (⟨#[]⟩ : ByteArray)]) ?_ 2 _ rfl; refine bT ?_; refine bU (cs := #[.int .u64 a1_0, .slice none 0 0, .string (⟨#[]⟩ : ByteArray)]) ?_ 1 _ rfl; refine bT ?_; refine bU (cs := #[.int .u64 0, .slice none 0 0, .string (⟨#[]⟩ : ByteArray)]) ?_ 0 _ rfl; exact bT BK136.out) Tryd.underlying66 rfl (by kernel_rfl)) rfl ?_
    exact ⟨_, by first | rfl | (simp [errW_none, errW_some] <;> rfl) | (simp [*, errW_none, errW_some] <;> rfl), by apply Kd.N_to; exact Kd.N_mono (Kd.N_far (p := ⟨gb136, 2, none⟩) (Kd.N_far (p := ⟨gb136, 1, none⟩) (Kd.N_far (p := ⟨gb136, 0, none⟩) (Kd.N_mono HO150.out (fun k_ hk => (⟨hk, hk.2.2.2⟩ : _ ∧ k_ ≠ gb136))) (fun _ hk => hk.2) (.int .u64 a1_0)) (fun _ hk => hk.2) (.slice Ao28 y148.length co28)) (fun _ hk => hk.2) (.string (a0_2 ++ t137))) (fun _ hk => hk.1.1), bA⟩
   ·rw [if_neg c8] at H
    exact absurd H (by simp)
  ·rw [if_neg c7] at H
   exact absurd H (by simp)
 ·rw [if_neg c4] at H
  have c4b0 : (t138 == 0) = false := beq_eq_false_iff_ne.mpr c4
  have c4b1 : (t138 != 0) = true := bne_iff_ne.mpr c4
  simp only [Option.some.injEq, Prod.mk.injEq] at H
  obtain ⟨rfl, rfl, rfl, rfl⟩ := H
  go_enter Tryd.func62, Tryd.ntmps62
  go_wp2_with (first | ((with_reducible refine gate_dst (N := 2) rfl ?_); refine box_event ?hg (N := 2) ?hd (cs := #[.int .u64 a0_0, .slice A0_1 l0_1.length c0_1, .string a0_2]) (t := 66) ?hr ?_; (case hd => rfl); (case hg => rfl); (case hr => first | (go_simp; done) | (go_simp; rfl)); intro gb134 hg w32 hbox hb; have n0_ := Ax.mk (Kd.V_below (Kd.V_elderB (by exact Kd.V_to HO0_1.out) gb134 (Nat.le_of_eq hg.symm)) hb); have n1_ := Ax.mk (bP bA hb); have n2_ := Ax.mk (hbox); have n3_ := Ax.mk ((ge_new hg : w.heap.size ≤ gb134)); have n4_ := n3_; clear HO0_1; clear HB; have HO0_1 := n0_; have HB := n1_; have BK134 := n2_; have GW134 := n3_; have GE134 := n4_; clear n0_ n1_ n2_ n3_ n4_; clear hb hbox hg) | ((with_reducible refine gate_dst (N := 3) rfl ?_); refine box_event ?hg (N := 3) ?hd (cs := #[.int .u64 a1_0, .slice A1_1 l1_1.length c1_1]) (t := 44) ?hr ?_; (case hd => rfl); (case hg => rfl); (case hr => first | (go_simp; done) | (go_simp; rfl)); intro gb135 hg w33 hbox hb; have n0_ := Ax.mk (Kd.V_below (Kd.V_elderB (by exact Kd.V_to HO0_1.out) gb135 (Nat.le_of_eq hg.symm)) hb); have n1_ := Ax.mk (bB (bT BK134.out) hb); have n2_ := Ax.mk (bP bA hb); have n3_ := Ax.mk (hbox); have n4_ := Ax.mk ((ge_new hg : w.heap.size ≤ gb135)); have n5_ := n4_; have n6_ := Ax.mk ((ne_lt hg BK134.out : gb134 ≠ gb135)); have n7_ := Ax.mk ((ne_gt hg BK134.out : gb135 ≠ gb134)); clear HO0_1; clear BK134; clear HB; have HO0_1 := n0_; have BK134 := n1_; have HB := n2_; have BK135 := n3_; have GW135 := n4_; have GE135 := n5_; have NB134_135 := n6_; have NB135_134 := n7_; clear n0_ n1_ n2_ n3_ n4_ n5_ n6_ n7_; clear hb hbox hg) | ((with_reducible refine gate_dst (N := 4) rfl ?_); refine box_event ?hg (N := 4) ?hd (cs := #[.int .u64 0, .slice none 0 0, .string (⟨#[]⟩ : ByteArray)]) (t := 66) ?hr ?_; (case hd => rfl); (case hg => rfl); (case hr => first | (go_simp; done) | (go_simp; rfl)); intro gb136 hg w34 hbox hb; have n0_ := Ax.mk (Kd.V_below (Kd.V_elderB (by exact Kd.V_to HO0_1.out) gb136 (Nat.le_of_eq hg.symm)) hb); have n1_ := Ax.mk (bB (bT BK134.out) hb); have n2_ := Ax.mk (bB (bT BK135.out) hb); have n3_ := Ax.mk (bP bA hb); have n4_ := Ax.mk (hbox); have n5_ := Ax.mk ((ge_new hg : w.heap.size ≤ gb136)); have n6_ := n5_; have n7_ := Ax.mk ((ne_lt hg BK134.out : gb134 ≠ gb136)); have n8_ := Ax.mk ((ne_gt hg BK134.out : gb136 ≠ gb134)); have n9_ := Ax.mk ((ne_lt hg BK135.out : gb135 ≠ gb136)); have n10_ := Ax.mk ((ne_gt hg BK135.out : gb136 ≠ gb135)); clear HO0_1; clear BK134; clear BK135; clear HB; have HO0_1 := n0_; have BK134 := n1_; have BK135 := n2_; have HB := n3_; have BK136 := n4_; have GW136 := n5_; have GE136 := n6_; have NB134_136 := n7_; have NB136_134 := n8_; have NB135_136 := n9_; have NB136_135 := n10_; clear n0_ n1_ n2_ n3_ n4_ n5_ n6_ n7_ n8_ n9_ n10_; clear hb hbox hg; have hnb35 := NB135_134.out; have hnc35 := NB134_135.out; have hnb36 := NB135_136.out; have hnc36 := NB136_135.out; have hcz37_0 : w34.cell? ⟨gb135, 0, none⟩ = some (.int .u64 a1_0) := (bC BK135.out 0).trans rfl; have hcz37_1 : w34.cell? ⟨gb135, 1, none⟩ = some (.slice A1_1 l1_1.length c1_1) := (bC BK135.out 1).trans rfl; have hfz37_0 := bF BK135.out 0; have hfz37_1 := bF BK135.out 1) | ((with_reducible refine gate_callee (f := 74) rfl ?_); refine goesL_ (some 10) rfl rfl Tryd.func74 (by kernel_rfl) rfl #[.agg #[.int .u64 a1_0, .slice A1_1 l1_1.length c1_1]] rfl (by (try simp only [List.map_toArray, List.map_cons, List.map_nil]); first | done | rfl | (simp only [List.length_drop, List.length_take]; rfl) | (rw [wrap_sum2 (by assumption)]; rfl)) ?_; (with_reducible refine (journal_closed.calls k a1_0 _ _ l1_1 t137 t138 _ ?side1 ?side2 A3.out (HT.below bA)).mono ?_); (case side1 => repeat (first | exact (Kd.C_below HR1_1.out HB.out) | (with_reducible refine Kd.C_alloc ?_ _) | (with_reducible refine Kd.C_drewN ?_ _) | (with_reducible refine Kd.C_drew ?_))); (case side2 => exact HC1_1.out); rintro e w38 ⟨rfl, hb⟩; refine ⟨_, rfl, ?_⟩; have n0_ := Ax.mk (Kd.V_below (by exact Kd.V_to HO0_1.out) hb); have n1_ := Ax.mk (bB (bT BK134.out) hb); have n2_ := Ax.mk (bB (bT BK135.out) hb); have n3_ := Ax.mk (bB (bT BK136.out) hb); have n4_ := Ax.mk (bP bA hb); clear HO0_1; clear BK134; clear BK135; clear BK136; clear HB; have HO0_1 := n0_; have BK134 := n1_; have BK135 := n2_; have BK136 := n3_; have HB := n4_; clear n0_ n1_ n2_ n3_ n4_; (try clear hb); (try clear hb2); (try clear hk); (try clear hi); have hnb39 := NB136_134.out; have hnc39 := NB134_136.out; have hcz40_0 : w38.cell? ⟨gb136, 0, none⟩ = some (.int .u64 0) := (bC BK136.out 0).trans rfl; have hcz40_1 : w38.cell? ⟨gb136, 1, none⟩ = some (.slice none 0 0) := (bC BK136.out 1).trans rfl; have hcz40_2 : w38.cell? ⟨gb136, 2, none⟩ = some (.string (⟨#[]⟩ : ByteArray)) := (bC BK136.out 2).trans rfl; have hfz40_0 := bF BK136.out 0; have hfz40_1 := bF BK136.out 1; have hfz40_2 := bF BK136.out 2))
  refine bodyPost_ret (results_ct rfl _ _ gb136 66 #[.int .u64 0, .slice none 0 0, .string (⟨#[]⟩ : ByteArray)] (0, 0) _ rfl (by refine bT ?_; refine bU (cs := #[.int .u64 0, .slice none 0 0, .string (⟨#[]⟩ : ByteArray)]) ?_ 2 _ rfl; refine bT ?_; refine bU (cs := #[.int .u64 0, .slice none 0 0, .string (⟨#[]⟩ : ByteArray)]) ?_ 1 _ rfl; refine bT ?_; refine bU (cs := #[.int .u64 0, .slice none 0 0, .string (⟨#[]⟩ : ByteArray)]) ?_ 0 _ rfl; exact bT BK136.out) Tryd.underlying66 rfl (by kernel_rfl)) rfl ?_
  exact ⟨_, by first | rfl | (simp [errW_none, errW_some] <;> rfl) | (simp [*, errW_none, errW_some] <;> rfl), by first | exact Kd.S_nil _ _ _ _ _ | exact Kd.N_nil _ _ _ _ _ | exact Kd.V_nil _ _ _ _ _ | exact Kd.Q_nil _ _ _ _ _ | exact Kd.R_nil _ _ _ _ _, bA⟩
def journal_Add.f (k : Nat) (a0_0 : Int) (l0_1 : List (S44)) (a0_2 : ByteArray) (l1 : List (S24)) : Option (Int × (List (S44)) × ByteArray × Int) := (journal_Log_with.f k a0_0 l0_1 a0_2 (IntKind.u64.wrap (a0_0 + 1)) l1).bind fun bt160 => (if bt160.2.2.2 = 0 then (if a0_0 = 18446744073709551615 then (some (0, ([] : List (S44)), (⟨#[]⟩ : ByteArray), 14)) else (some (bt160.1, bt160.2.1, bt160.2.2.1, 0))) else (some (0, ([] : List (S44)), (⟨#[]⟩ : ByteArray), bt160.2.2.2)))
theorem journal_Add.mono : ∀ a0 a1 a2 a3 k, LeO (journal_Add.f k a0 a1 a2 a3) (journal_Add.f (k + 1) a0 a1 a2 a3) := by
 intro a0 a1 a2 a3 k
 unfold journal_Add.f
 repeat' first
   | (with_reducible exact journal_Log_with.mono _ _ _ _ _ _)
   | (with_reducible exact LeO.refl _)
   | (with_reducible exact LeO.none _)
   | (with_reducible refine LeO.ite ?_ ?_)
   | (with_reducible refine LeO.bind ?_ (fun _ => ?_))
   | exact journal_Log_with.mono _ _ _ _ _ _
   | exact LeO.none _
   | refine LeO.ite ?_ ?_
   | refine LeO.bind ?_ (fun _ => ?_)
set_option maxHeartbeats 8000000 in
set_option maxRecDepth 100000 in
theorem journal_Add.calls (k : Nat) (a0_0 : Int) (P0_1_ : Nat → Prop) (A0_1 : Option Addr) (c0_1 : Nat) (l0_1 : List (S44)) (a0_2 : ByteArray) (A1 : Option Addr) (c1 : Nat) (l1 : List (S24)) (r1 : Int) (r2 : List (S44)) (r3 : ByteArray) (r4 : Int) (w : World) (hs0_1 : Kd.V k44 44 w w.heap.size (fun k_ => P0_1_ k_) (.slice A0_1 l0_1.length c0_1) l0_1) (hr1 : Kd.C k24 w A1 l1.length l1) (hc1 : l1.length ≤ c1) (h : journal_Add.f k a0_0 l0_1 a0_2 l1 = some (r1, r2, r3, r4)) (HT : Tabs w) :
  Calls Tryd.prog 39 #[.agg #[.int .u64 a0_0, .slice A0_1 l0_1.length c0_1, .string a0_2], .slice A1 l1.length c1] w fun e w' => ∃ v1_ : Value, e = .returned (.tuple #[.agg #[.int .u64 r1, v1_, .string r3], .int .i64 r4]) ∧ Kd.N k44 44 w' w.heap.size (fun k_ => (P0_1_ k_ ∨ w.heap.size ≤ k_)) v1_ r2 ∧ Below w.heap.size w w' := by
 have hu66 := Tryd.underlying66
 have hu44 := Tryd.underlying44
 have HO0_1 := Ax.mk (show Kd.V k44 44 w w.heap.size (fun k_ => (P0_1_ k_ ∨ w.heap.size ≤ k_)) (.slice A0_1 l0_1.length c0_1) l0_1 from Kd.V_mono hs0_1 (fun k_ hk => .inl hk))
 have HR1 := Ax.mk hr1
 have HC1 := Ax.mk hc1
 clear hr1 hc1
 have HB := Ax.mk (Below.refl w.heap.size w)
 have H : ((journal_Log_with.f k a0_0 l0_1 a0_2 (IntKind.u64.wrap (a0_0 + 1)) l1).bind fun bt160 => (if bt160.2.2.2 = 0 then (if a0_0 = 18446744073709551615 then (some (0, ([] : List (S44)), (⟨#[]⟩ : ByteArray), 14)) else (some (bt160.1, bt160.2.1, bt160.2.2.1, 0))) else (some (0, ([] : List (S44)), (⟨#[]⟩ : ByteArray), bt160.2.2.2)))) = some (r1, r2, r3, r4) := h
 clear h
 replace H := Option.bind_eq_some_iff.mp H
 obtain ⟨⟨t160, t161, t164, t165⟩, A30, H⟩ := H
 replace H : (if t165 = 0 then (if a0_0 = 18446744073709551615 then (some (0, ([] : List (S44)), (⟨#[]⟩ : ByteArray), 14)) else (some (t160, t161, t164, 0))) else (some (0, ([] : List (S44)), (⟨#[]⟩ : ByteArray), t165))) = some (r1, r2, r3, r4) := H
 have A3 := Ax.mk A30
 clear A30
 by_cases c4 : t165 = 0
 ·rw [if_pos c4] at H
  have c4b0 : (t165 == 0) = true := beq_iff_eq.mpr c4
  have c4b1 : (t165 != 0) = false := bne_eq_false_iff_eq.mpr c4
  clear c4
  by_cases c5 : a0_0 = 18446744073709551615
  ·rw [if_pos c5] at H
   have c5b0 : (a0_0 == 18446744073709551615) = true := beq_iff_eq.mpr c5
   have c5b1 : (a0_0 != 18446744073709551615) = false := bne_eq_false_iff_eq.mpr c5
   clear c5
   simp only [Option.some.injEq, Prod.mk.injEq] at H
   obtain ⟨rfl, rfl, rfl, rfl⟩ := H
   go_enter Tryd.func39, Tryd.ntmps39
   go_wp2_with (first | ((with_reducible refine gate_dst (N := 2) rfl ?_); refine box_event ?hg (N := 2) ?hd (cs := #[.int .u64 a0_0, .slice A0_1 l0_1.length c0_1, .string a0_2]) (t := 66) ?hr ?_; (case hd => rfl); (case hg => rfl); (case hr => first | (go_simp; done) | (go_simp; rfl)); intro gb158 hg w6 hbox hb; have n0_ := Ax.mk (Kd.V_below (Kd.V_elderB (by exact Kd.V_to HO0_1.out) gb158 (Nat.le_of_eq hg.symm)) hb); have n1_ := Ax.mk (bP bA hb); have n2_ := Ax.mk (hbox); have n3_ := Ax.mk ((ge_new hg : w.heap.size ≤ gb158)); have n4_ := n3_; clear HO0_1; clear HB; have HO0_1 := n0_; have HB := n1_; have BK158 := n2_; have GW158 := n3_; have GE158 := n4_; clear n0_ n1_ n2_ n3_ n4_; clear hb hbox hg) | ((with_reducible refine gate_dst (N := 4) rfl ?_); refine box_event ?hg (N := 4) ?hd (cs := #[.int .u64 0, .slice none 0 0, .string (⟨#[]⟩ : ByteArray)]) (t := 66) ?hr ?_; (case hd => rfl); (case hg => rfl); (case hr => first | (go_simp; done) | (go_simp; rfl)); intro gb159 hg w7 hbox hb; have n0_ := Ax.mk (Kd.V_below (Kd.V_elderB (by exact Kd.V_to HO0_1.out) gb159 (Nat.le_of_eq hg.symm)) hb); have n1_ := Ax.mk (bB (bT BK158.out) hb); have n2_ := Ax.mk (bP bA hb); have n3_ := Ax.mk (hbox); have n4_ := Ax.mk ((ge_new hg : w.heap.size ≤ gb159)); have n5_ := n4_; have n6_ := Ax.mk ((ne_lt hg BK158.out : gb158 ≠ gb159)); have n7_ := Ax.mk ((ne_gt hg BK158.out : gb159 ≠ gb158)); clear HO0_1; clear BK158; clear HB; have HO0_1 := n0_; have BK158 := n1_; have HB := n2_; have BK159 := n3_; have GW159 := n4_; have GE159 := n5_; have NB158_159 := n6_; have NB159_158 := n7_; clear n0_ n1_ n2_ n3_ n4_ n5_ n6_ n7_; clear hb hbox hg; have hnb8 := NB158_159.out; have hnc8 := NB159_158.out; have hcz9_0 : w7.cell? ⟨gb158, 0, none⟩ = some (.int .u64 a0_0) := (bC BK158.out 0).trans rfl; have hcz9_1 : w7.cell? ⟨gb158, 1, none⟩ = some (.slice A0_1 l0_1.length c0_1) := (bC BK158.out 1).trans rfl; have hcz9_2 : w7.cell? ⟨gb158, 2, none⟩ = some (.string a0_2) := (bC BK158.out 2).trans rfl; have hfz9_0 := bF BK158.out 0; have hfz9_1 := bF BK158.out 1; have hfz9_2 := bF BK158.out 2) | ((with_reducible refine gate_callee (f := 62) rfl ?_); refine goesL_ (some 15) rfl rfl Tryd.func62 (by kernel_rfl) rfl #[.agg #[.int .u64 a0_0, .slice A0_1 l0_1.length c0_1, .string a0_2], .agg #[.int .u64 (IntKind.u64.wrap (a0_0 + 1)), .slice A1 l1.length c1]] rfl (by (try simp only [List.map_toArray, List.map_cons, List.map_nil]); first | done | rfl | (simp only [List.length_drop, List.length_take]; rfl) | (rw [wrap_sum2 (by assumption)]; rfl)) ?_; (with_reducible refine (journal_Log_with.calls k a0_0 (fun k_ => (((P0_1_ k_ ∨ w.heap.size ≤ k_) ∧ k_ ≠ gb158) ∧ k_ ≠ gb159)) _ _ l0_1 a0_2 (IntKind.u64.wrap (a0_0 + 1)) _ _ l1 t160 t161 t164 t165 _ ?side1 ?side2 ?side3 A3.out (HT.below bA)).mono ?_); (case side1 => exact HO0_1.out); (case side2 => repeat (first | exact (Kd.C_below HR1.out HB.out) | (with_reducible refine Kd.C_alloc ?_ _) | (with_reducible refine Kd.C_drewN ?_ _) | (with_reducible refine Kd.C_drew ?_))); (case side3 => exact HC1.out); rintro e w10 ⟨v162, rfl, ho0, hb⟩; refine ⟨_, rfl, ?_⟩; have n0_ := Ax.mk (Kd.V_elder' (by exact Kd.V_to HO0_1.out) (Kd.N_base ho0) hb); have n1_ := Ax.mk (Kd.N_lower (Kd.N_mono (ok' := fun k_ => (P0_1_ k_ ∨ w.heap.size ≤ k_) ∧ k_ ≠ gb158 ∧ k_ ≠ gb159) ho0 (fun k_ hk_ => ⟨Or.elim hk_ (fun hs_ => hs_.1.1) (fun hn_ => (.inr (Nat.le_trans (bS bA) hn_))), Or.elim hk_ (fun hs_ => hs_.1.2) (fun hn_ => (Kd.freshB (g := gb158) (o := .cells #[.int .u64 a0_0, .slice A0_1 l0_1.length c0_1, .string a0_2] 66 (0, 0)) (bT BK158.out) k_ hn_)), Or.elim hk_ (fun hs_ => hs_.2) (fun hn_ => (Kd.freshB (g := gb159) (o := .cells #[.int .u64 0, .slice none 0 0, .string (⟨#[]⟩ : ByteArray)] 66 (0, 0)) (bT BK159.out) k_ hn_))⟩)) (bS bA)); have n2_ := Ax.mk (bB (bT BK158.out) hb); have n3_ := Ax.mk (bB (bT BK159.out) hb); have n4_ := Ax.mk (bP bA hb); clear HO0_1; clear BK158; clear BK159; clear HB; have HO0_1 := n0_; have HO163 := n1_; have BK158 := n2_; have BK159 := n3_; have HB := n4_; clear n0_ n1_ n2_ n3_ n4_; (try clear hb); (try clear hb2); (try clear hk); (try clear hi); (try clear ho0)) | ((with_reducible refine gate_dst (N := 6) rfl ?_); refine box_event ?hg (N := 6) ?hd (cs := #[.int .u64 0, .slice none 0 0, .string (⟨#[]⟩ : ByteArray)]) (t := 66) ?hr ?_; (case hd => rfl); (case hg => rfl); (case hr => first | (go_simp; done) | (go_simp; rfl)); intro gb166 hg w11 hbox hb; have n0_ := Ax.mk (Kd.V_below (Kd.V_elderB (by exact Kd.V_to HO0_1.out) gb166 (Nat.le_of_eq hg.symm)) hb); have n1_ := Ax.mk (Kd.N_below (Kd.N_elderB (by exact Kd.N_to HO163.out) gb166 (Nat.le_of_eq hg.symm)) hb); have n2_ := Ax.mk (bB (bT BK158.out) hb); have n3_ := Ax.mk (bB (bT BK159.out) hb); have n4_ := Ax.mk (bP bA hb); have n5_ := Ax.mk (hbox); have n6_ := Ax.mk ((ge_new hg : w.heap.size ≤ gb166)); have n7_ := n6_; have n8_ := Ax.mk ((ne_lt hg BK158.out : gb158 ≠ gb166)); have n9_ := Ax.mk ((ne_gt hg BK158.out : gb166 ≠ gb158)); have n10_ := Ax.mk ((ne_lt hg BK159.out : gb159 ≠ gb166)); have n11_ := Ax.mk ((ne_gt hg BK159.out : gb166 ≠ gb159)); clear HO0_1; clear HO163; clear BK158; clear BK159; clear HB; have HO0_1 := n0_; have HO163 := n1_; have BK158 := n2_; have BK159 := n3_; have HB := n4_; have BK166 := n5_; have GW166 := n6_; have GE166 := n7_; have NB158_166 := n8_; have NB166_158 := n9_; have NB159_166 := n10_; have NB166_159 := n11_; clear n0_ n1_ n2_ n3_ n4_ n5_ n6_ n7_ n8_ n9_ n10_ n11_; clear hb hbox hg; have hnb12 := NB166_158.out; have hnc12 := NB158_166.out; have hnb13 := NB166_159.out; have hnc13 := NB159_166.out; have hcz14_0 : w11.cell? ⟨gb166, 0, none⟩ = some (.int .u64 0) := (bC BK166.out 0).trans rfl; have hcz14_1 : w11.cell? ⟨gb166, 1, none⟩ = some (.slice none 0 0) := (bC BK166.out 1).trans rfl; have hcz14_2 : w11.cell? ⟨gb166, 2, none⟩ = some (.string (⟨#[]⟩ : ByteArray)) := (bC BK166.out 2).trans rfl; have hfz14_0 := bF BK166.out 0; have hfz14_1 := bF BK166.out 1; have hfz14_2 := bF BK166.out 2; obtain ⟨Ao15, co15, eo15⟩ := Kd.N_slice HO163.out; subst eo15; have hcz16_0 : w11.cell? ⟨gb158, 0, none⟩ = some (.int .u64 a0_0) := (bC BK158.out 0).trans rfl; have hcz16_1 : w11.cell? ⟨gb158, 1, none⟩ = some (.slice A0_1 l0_1.length c0_1) := (bC BK158.out 1).trans rfl; have hcz16_2 : w11.cell? ⟨gb158, 2, none⟩ = some (.string a0_2) := (bC BK158.out 2).trans rfl; have hfz16_0 := bF BK158.out 0; have hfz16_1 := bF BK158.out 1; have hfz16_2 := bF BK158.out 2; have hcz17_0 : w11.cell? ⟨gb159, 0, none⟩ = some (.int .u64 0) := (bC BK159.out 0).trans rfl; have hcz17_1 : w11.cell? ⟨gb159, 1, none⟩ = some (.slice none 0 0) := (bC BK159.out 1).trans rfl; have hcz17_2 : w11.cell? ⟨gb159, 2, none⟩ = some (.string (⟨#[]⟩ : ByteArray)) := (bC BK159.out 2).trans rfl; have hfz17_0 := bF BK159.out 0; have hfz17_1 := bF BK159.out 1; have hfz17_2 := bF BK159.out 2))
   refine bodyPost_ret (results_ct rfl _ _ gb159 66 #[.int .u64 0, .slice none 0 0, .string (⟨#[]⟩ : ByteArray)] (0, 0) _ rfl (by refine bT ?_; refine bU (cs := #[.int .u64 0, .slice none 0 0, .string (⟨#[]⟩ : ByteArray)]) ?_ 2 _ rfl; refine bT ?_; refine bU (cs := #[.int .u64 0, .slice none 0 0, .string (⟨#[]⟩ : ByteArray)]) ?_ 1 _ rfl; refine bT ?_; refine bU (cs := #[.int .u64 0, .slice none 0 0, .string (⟨#[]⟩ : ByteArray)]) ?_ 0 _ rfl; refine bT ?_; refine bR ?_ NB159_166.out _; refine bT ?_; refine bR ?_ NB159_166.out _; refine bT ?_; refine bR ?_ NB159_166.out _; exact bT BK159.out) Tryd.underlying66 rfl (by kernel_rfl)) rfl ?_
   exact ⟨_, by first | rfl | (simp [errW_none, errW_some] <;> rfl) | (simp [*, errW_none, errW_some] <;> rfl), by first | exact Kd.S_nil _ _ _ _ _ | exact Kd.N_nil _ _ _ _ _ | exact Kd.V_nil _ _ _ _ _ | exact Kd.Q_nil _ _ _ _ _ | exact Kd.R_nil _ _ _ _ _, bA⟩
  ·rw [if_neg c5] at H
   have c5b0 : (a0_0 == 18446744073709551615) = false := beq_eq_false_iff_ne.mpr c5
   have c5b1 : (a0_0 != 18446744073709551615) = true := bne_iff_ne.mpr c5
   simp only [Option.some.injEq, Prod.mk.injEq] at H
   obtain ⟨rfl, rfl, rfl, rfl⟩ := H
   go_enter Tryd.func39, Tryd.ntmps39
   go_wp2_with (first | ((with_reducible refine gate_dst (N := 2) rfl ?_); refine box_event ?hg (N := 2) ?hd (cs := #[.int .u64 a0_0, .slice A0_1 l0_1.length c0_1, .string a0_2]) (t := 66) ?hr ?_; (case hd => rfl); (case hg => rfl); (case hr => first | (go_simp; done) | (go_simp; rfl)); intro gb158 hg w18 hbox hb; have n0_ := Ax.mk (Kd.V_below (Kd.V_elderB (by exact Kd.V_to HO0_1.out) gb158 (Nat.le_of_eq hg.symm)) hb); have n1_ := Ax.mk (bP bA hb); have n2_ := Ax.mk (hbox); have n3_ := Ax.mk ((ge_new hg : w.heap.size ≤ gb158)); have n4_ := n3_; clear HO0_1; clear HB; have HO0_1 := n0_; have HB := n1_; have BK158 := n2_; have GW158 := n3_; have GE158 := n4_; clear n0_ n1_ n2_ n3_ n4_; clear hb hbox hg) | ((with_reducible refine gate_dst (N := 4) rfl ?_); refine box_event ?hg (N := 4) ?hd (cs := #[.int .u64 0, .slice none 0 0, .string (⟨#[]⟩ : ByteArray)]) (t := 66) ?hr ?_; (case hd => rfl); (case hg => rfl); (case hr => first | (go_simp; done) | (go_simp; rfl)); intro gb159 hg w19 hbox hb; have n0_ := Ax.mk (Kd.V_below (Kd.V_elderB (by exact Kd.V_to HO0_1.out) gb159 (Nat.le_of_eq hg.symm)) hb); have n1_ := Ax.mk (bB (bT BK158.out) hb); have n2_ := Ax.mk (bP bA hb); have n3_ := Ax.mk (hbox); have n4_ := Ax.mk ((ge_new hg : w.heap.size ≤ gb159)); have n5_ := n4_; have n6_ := Ax.mk ((ne_lt hg BK158.out : gb158 ≠ gb159)); have n7_ := Ax.mk ((ne_gt hg BK158.out : gb159 ≠ gb158)); clear HO0_1; clear BK158; clear HB; have HO0_1 := n0_; have BK158 := n1_; have HB := n2_; have BK159 := n3_; have GW159 := n4_; have GE159 := n5_; have NB158_159 := n6_; have NB159_158 := n7_; clear n0_ n1_ n2_ n3_ n4_ n5_ n6_ n7_; clear hb hbox hg; have hnb20 := NB158_159.out; have hnc20 := NB159_158.out; have hcz21_0 : w19.cell? ⟨gb158, 0, none⟩ = some (.int .u64 a0_0) := (bC BK158.out 0).trans rfl; have hcz21_1 : w19.cell? ⟨gb158, 1, none⟩ = some (.slice A0_1 l0_1.length c0_1) := (bC BK158.out 1).trans rfl; have hcz21_2 : w19.cell? ⟨gb158, 2, none⟩ = some (.string a0_2) := (bC BK158.out 2).trans rfl; have hfz21_0 := bF BK158.out 0; have hfz21_1 := bF BK158.out 1; have hfz21_2 := bF BK158.out 2) | ((with_reducible refine gate_callee (f := 62) rfl ?_); refine goesL_ (some 15) rfl rfl Tryd.func62 (by kernel_rfl) rfl #[.agg #[.int .u64 a0_0, .slice A0_1 l0_1.length c0_1, .string a0_2], .agg #[.int .u64 (IntKind.u64.wrap (a0_0 + 1)), .slice A1 l1.length c1]] rfl (by (try simp only [List.map_toArray, List.map_cons, List.map_nil]); first | done | rfl | (simp only [List.length_drop, List.length_take]; rfl) | (rw [wrap_sum2 (by assumption)]; rfl)) ?_; (with_reducible refine (journal_Log_with.calls k a0_0 (fun k_ => (((P0_1_ k_ ∨ w.heap.size ≤ k_) ∧ k_ ≠ gb158) ∧ k_ ≠ gb159)) _ _ l0_1 a0_2 (IntKind.u64.wrap (a0_0 + 1)) _ _ l1 t160 t161 t164 t165 _ ?side1 ?side2 ?side3 A3.out (HT.below bA)).mono ?_); (case side1 => exact HO0_1.out); (case side2 => repeat (first | exact (Kd.C_below HR1.out HB.out) | (with_reducible refine Kd.C_alloc ?_ _) | (with_reducible refine Kd.C_drewN ?_ _) | (with_reducible refine Kd.C_drew ?_))); (case side3 => exact HC1.out); rintro e w22 ⟨v162, rfl, ho0, hb⟩; refine ⟨_, rfl, ?_⟩; have n0_ := Ax.mk (Kd.V_elder' (by exact Kd.V_to HO0_1.out) (Kd.N_base ho0) hb); have n1_ := Ax.mk (Kd.N_lower (Kd.N_mono (ok' := fun k_ => (P0_1_ k_ ∨ w.heap.size ≤ k_) ∧ k_ ≠ gb158 ∧ k_ ≠ gb159) ho0 (fun k_ hk_ => ⟨Or.elim hk_ (fun hs_ => hs_.1.1) (fun hn_ => (.inr (Nat.le_trans (bS bA) hn_))), Or.elim hk_ (fun hs_ => hs_.1.2) (fun hn_ => (Kd.freshB (g := gb158) (o := .cells #[.int .u64 a0_0, .slice A0_1 l0_1.length c0_1, .string a0_2] 66 (0, 0)) (bT BK158.out) k_ hn_)), Or.elim hk_ (fun hs_ => hs_.2) (fun hn_ => (Kd.freshB (g := gb159) (o := .cells #[.int .u64 0, .slice none 0 0, .string (⟨#[]⟩ : ByteArray)] 66 (0, 0)) (bT BK159.out) k_ hn_))⟩)) (bS bA)); have n2_ := Ax.mk (bB (bT BK158.out) hb); have n3_ := Ax.mk (bB (bT BK159.out) hb); have n4_ := Ax.mk (bP bA hb); clear HO0_1; clear BK158; clear BK159; clear HB; have HO0_1 := n0_; have HO163 := n1_; have BK158 := n2_; have BK159 := n3_; have HB := n4_; clear n0_ n1_ n2_ n3_ n4_; (try clear hb); (try clear hb2); (try clear hk); (try clear hi); (try clear ho0)) | ((with_reducible refine gate_dst (N := 6) rfl ?_); refine box_event ?hg (N := 6) ?hd (cs := #[.int .u64 0, .slice none 0 0, .string (⟨#[]⟩ : ByteArray)]) (t := 66) ?hr ?_; (case hd => rfl); (case hg => rfl); (case hr => first | (go_simp; done) | (go_simp; rfl)); intro gb166 hg w23 hbox hb; have n0_ := Ax.mk (Kd.V_below (Kd.V_elderB (by exact Kd.V_to HO0_1.out) gb166 (Nat.le_of_eq hg.symm)) hb); have n1_ := Ax.mk (Kd.N_below (Kd.N_elderB (by exact Kd.N_to HO163.out) gb166 (Nat.le_of_eq hg.symm)) hb); have n2_ := Ax.mk (bB (bT BK158.out) hb); have n3_ := Ax.mk (bB (bT BK159.out) hb); have n4_ := Ax.mk (bP bA hb); have n5_ := Ax.mk (hbox); have n6_ := Ax.mk ((ge_new hg : w.heap.size ≤ gb166)); have n7_ := n6_; have n8_ := Ax.mk ((ne_lt hg BK158.out : gb158 ≠ gb166)); have n9_ := Ax.mk ((ne_gt hg BK158.out : gb166 ≠ gb158)); have n10_ := Ax.mk ((ne_lt hg BK159.out : gb159 ≠ gb166)); have n11_ := Ax.mk ((ne_gt hg BK159.out : gb166 ≠ gb159)); clear HO0_1; clear HO163; clear BK158; clear BK159; clear HB; have HO0_1 := n0_; have HO163 := n1_; have BK158 := n2_; have BK159 := n3_; have HB := n4_; have BK166 := n5_; have GW166 := n6_; have GE166 := n7_; have NB158_166 := n8_; have NB166_158 := n9_; have NB159_166 := n10_; have NB166_159 := n11_; clear n0_ n1_ n2_ n3_ n4_ n5_ n6_ n7_ n8_ n9_ n10_ n11_; clear hb hbox hg; have hnb24 := NB166_158.out; have hnc24 := NB158_166.out; have hnb25 := NB166_159.out; have hnc25 := NB159_166.out; have hcz26_0 : w23.cell? ⟨gb166, 0, none⟩ = some (.int .u64 0) := (bC BK166.out 0).trans rfl; have hcz26_1 : w23.cell? ⟨gb166, 1, none⟩ = some (.slice none 0 0) := (bC BK166.out 1).trans rfl; have hcz26_2 : w23.cell? ⟨gb166, 2, none⟩ = some (.string (⟨#[]⟩ : ByteArray)) := (bC BK166.out 2).trans rfl; have hfz26_0 := bF BK166.out 0; have hfz26_1 := bF BK166.out 1; have hfz26_2 := bF BK166.out 2; obtain ⟨Ao27, co27, eo27⟩ := Kd.N_slice HO163.out; subst eo27; have hcz28_0 : w23.cell? ⟨gb158, 0, none⟩ = some (.int .u64 a0_0) := (bC BK158.out 0).trans rfl; have hcz28_1 : w23.cell? ⟨gb158, 1, none⟩ = some (.slice A0_1 l0_1.length c0_1) := (bC BK158.out 1).trans rfl; have hcz28_2 : w23.cell? ⟨gb158, 2, none⟩ = some (.string a0_2) := (bC BK158.out 2).trans rfl; have hfz28_0 := bF BK158.out 0; have hfz28_1 := bF BK158.out 1; have hfz28_2 := bF BK158.out 2; have hcz29_0 : w23.cell? ⟨gb159, 0, none⟩ = some (.int .u64 0) := (bC BK159.out 0).trans rfl; have hcz29_1 : w23.cell? ⟨gb159, 1, none⟩ = some (.slice none 0 0) := (bC BK159.out 1).trans rfl; have hcz29_2 : w23.cell? ⟨gb159, 2, none⟩ = some (.string (⟨#[]⟩ : ByteArray)) := (bC BK159.out 2).trans rfl; have hfz29_0 := bF BK159.out 0; have hfz29_1 := bF BK159.out 1; have hfz29_2 := bF BK159.out 2))
   refine bodyPost_ret (results_ct rfl _ _ gb159 66 #[.int .u64 t160, .slice Ao27 t161.length co27, .string t164] (0, 0) _ rfl (by refine bT ?_; refine bU (cs := #[.int .u64 t160, .slice Ao27 t161.length co27, .string (⟨#[]⟩ : ByteArray)]) ?_ 2 _ rfl; refine bT ?_; refine bU (cs := #[.int .u64 t160, .slice none 0 0, .string (⟨#[]⟩ : ByteArray)]) ?_ 1 _ rfl; refine bT ?_; refine bU (cs := #[.int .u64 0, .slice none 0 0, .string (⟨#[]⟩ : ByteArray)]) ?_ 0 _ rfl; refine bT ?_; refine bR ?_ NB159_166.out _; refine bT ?_; refine bR ?_ NB159_166.out _; refine bT ?_; refine bR ?_ NB159_166.out _; exact bT BK159.out) Tryd.underlying66 rfl (by kernel_rfl)) rfl ?_
   exact ⟨_, by first | rfl | (simp [errW_none, errW_some] <;> rfl) | (simp [*, errW_none, errW_some] <;> rfl), by apply Kd.N_to; exact Kd.N_mono (Kd.N_far (p := ⟨gb159, 2, none⟩) (Kd.N_far (p := ⟨gb159, 1, none⟩) (Kd.N_far (p := ⟨gb159, 0, none⟩) (Kd.N_far (p := ⟨gb166, 2, none⟩) (Kd.N_far (p := ⟨gb166, 1, none⟩) (Kd.N_far (p := ⟨gb166, 0, none⟩) (Kd.N_mono (Kd.N_mono HO163.out (fun k_ hk => (⟨hk, hk.2⟩ : _ ∧ k_ ≠ gb166))) (fun k_ hk => (⟨hk, hk.1.1.2.2⟩ : _ ∧ k_ ≠ gb159))) (fun _ hk => hk.1.2) (.int .u64 t160)) (fun _ hk => hk.1.2) (.slice Ao27 t161.length co27)) (fun _ hk => hk.1.2) (.string t164)) (fun _ hk => hk.2) (.int .u64 t160)) (fun _ hk => hk.2) (.slice Ao27 t161.length co27)) (fun _ hk => hk.2) (.string t164)) (fun _ hk => hk.1.1.1.1), bA⟩
 ·rw [if_neg c4] at H
  have c4b0 : (t165 == 0) = false := beq_eq_false_iff_ne.mpr c4
  have c4b1 : (t165 != 0) = true := bne_iff_ne.mpr c4
  simp only [Option.some.injEq, Prod.mk.injEq] at H
  obtain ⟨rfl, rfl, rfl, rfl⟩ := H
  go_enter Tryd.func39, Tryd.ntmps39
  go_wp2_with (first | ((with_reducible refine gate_dst (N := 2) rfl ?_); refine box_event ?hg (N := 2) ?hd (cs := #[.int .u64 a0_0, .slice A0_1 l0_1.length c0_1, .string a0_2]) (t := 66) ?hr ?_; (case hd => rfl); (case hg => rfl); (case hr => first | (go_simp; done) | (go_simp; rfl)); intro gb158 hg w30 hbox hb; have n0_ := Ax.mk (Kd.V_below (Kd.V_elderB (by exact Kd.V_to HO0_1.out) gb158 (Nat.le_of_eq hg.symm)) hb); have n1_ := Ax.mk (bP bA hb); have n2_ := Ax.mk (hbox); have n3_ := Ax.mk ((ge_new hg : w.heap.size ≤ gb158)); have n4_ := n3_; clear HO0_1; clear HB; have HO0_1 := n0_; have HB := n1_; have BK158 := n2_; have GW158 := n3_; have GE158 := n4_; clear n0_ n1_ n2_ n3_ n4_; clear hb hbox hg) | ((with_reducible refine gate_dst (N := 4) rfl ?_); refine box_event ?hg (N := 4) ?hd (cs := #[.int .u64 0, .slice none 0 0, .string (⟨#[]⟩ : ByteArray)]) (t := 66) ?hr ?_; (case hd => rfl); (case hg => rfl); (case hr => first | (go_simp; done) | (go_simp; rfl)); intro gb159 hg w31 hbox hb; have n0_ := Ax.mk (Kd.V_below (Kd.V_elderB (by exact Kd.V_to HO0_1.out) gb159 (Nat.le_of_eq hg.symm)) hb); have n1_ := Ax.mk (bB (bT BK158.out) hb); have n2_ := Ax.mk (bP bA hb); have n3_ := Ax.mk (hbox); have n4_ := Ax.mk ((ge_new hg : w.heap.size ≤ gb159)); have n5_ := n4_; have n6_ := Ax.mk ((ne_lt hg BK158.out : gb158 ≠ gb159)); have n7_ := Ax.mk ((ne_gt hg BK158.out : gb159 ≠ gb158)); clear HO0_1; clear BK158; clear HB; have HO0_1 := n0_; have BK158 := n1_; have HB := n2_; have BK159 := n3_; have GW159 := n4_; have GE159 := n5_; have NB158_159 := n6_; have NB159_158 := n7_; clear n0_ n1_ n2_ n3_ n4_ n5_ n6_ n7_; clear hb hbox hg; have hnb32 := NB158_159.out; have hnc32 := NB159_158.out; have hcz33_0 : w31.cell? ⟨gb158, 0, none⟩ = some (.int .u64 a0_0) := (bC BK158.out 0).trans rfl; have hcz33_1 : w31.cell? ⟨gb158, 1, none⟩ = some (.slice A0_1 l0_1.length c0_1) := (bC BK158.out 1).trans rfl; have hcz33_2 : w31.cell? ⟨gb158, 2, none⟩ = some (.string a0_2) := (bC BK158.out 2).trans rfl; have hfz33_0 := bF BK158.out 0; have hfz33_1 := bF BK158.out 1; have hfz33_2 := bF BK158.out 2) | ((with_reducible refine gate_callee (f := 62) rfl ?_); refine goesL_ (some 15) rfl rfl Tryd.func62 (by kernel_rfl) rfl #[.agg #[.int .u64 a0_0, .slice A0_1 l0_1.length c0_1, .string a0_2], .agg #[.int .u64 (IntKind.u64.wrap (a0_0 + 1)), .slice A1 l1.length c1]] rfl (by (try simp only [List.map_toArray, List.map_cons, List.map_nil]); first | done | rfl | (simp only [List.length_drop, List.length_take]; rfl) | (rw [wrap_sum2 (by assumption)]; rfl)) ?_; (with_reducible refine (journal_Log_with.calls k a0_0 (fun k_ => (((P0_1_ k_ ∨ w.heap.size ≤ k_) ∧ k_ ≠ gb158) ∧ k_ ≠ gb159)) _ _ l0_1 a0_2 (IntKind.u64.wrap (a0_0 + 1)) _ _ l1 t160 t161 t164 t165 _ ?side1 ?side2 ?side3 A3.out (HT.below bA)).mono ?_); (case side1 => exact HO0_1.out); (case side2 => repeat (first | exact (Kd.C_below HR1.out HB.out) | (with_reducible refine Kd.C_alloc ?_ _) | (with_reducible refine Kd.C_drewN ?_ _) | (with_reducible refine Kd.C_drew ?_))); (case side3 => exact HC1.out); rintro e w34 ⟨v162, rfl, ho0, hb⟩; refine ⟨_, rfl, ?_⟩; have n0_ := Ax.mk (Kd.V_elder' (by exact Kd.V_to HO0_1.out) (Kd.N_base ho0) hb); have n1_ := Ax.mk (Kd.N_lower (Kd.N_mono (ok' := fun k_ => (P0_1_ k_ ∨ w.heap.size ≤ k_) ∧ k_ ≠ gb158 ∧ k_ ≠ gb159) ho0 (fun k_ hk_ => ⟨Or.elim hk_ (fun hs_ => hs_.1.1) (fun hn_ => (.inr (Nat.le_trans (bS bA) hn_))), Or.elim hk_ (fun hs_ => hs_.1.2) (fun hn_ => (Kd.freshB (g := gb158) (o := .cells #[.int .u64 a0_0, .slice A0_1 l0_1.length c0_1, .string a0_2] 66 (0, 0)) (bT BK158.out) k_ hn_)), Or.elim hk_ (fun hs_ => hs_.2) (fun hn_ => (Kd.freshB (g := gb159) (o := .cells #[.int .u64 0, .slice none 0 0, .string (⟨#[]⟩ : ByteArray)] 66 (0, 0)) (bT BK159.out) k_ hn_))⟩)) (bS bA)); have n2_ := Ax.mk (bB (bT BK158.out) hb); have n3_ := Ax.mk (bB (bT BK159.out) hb); have n4_ := Ax.mk (bP bA hb); clear HO0_1; clear BK158; clear BK159; clear HB; have HO0_1 := n0_; have HO163 := n1_; have BK158 := n2_; have BK159 := n3_; have HB := n4_; clear n0_ n1_ n2_ n3_ n4_; (try clear hb); (try clear hb2); (try clear hk); (try clear hi); (try clear ho0)) | ((with_reducible refine gate_dst (N := 6) rfl ?_); refine box_event ?hg (N := 6) ?hd (cs := #[.int .u64 0, .slice none 0 0, .string (⟨#[]⟩ : ByteArray)]) (t := 66) ?hr ?_; (case hd => rfl); (case hg => rfl); (case hr => first | (go_simp; done) | (go_simp; rfl)); intro gb166 hg w35 hbox hb; have n0_ := Ax.mk (Kd.V_below (Kd.V_elderB (by exact Kd.V_to HO0_1.out) gb166 (Nat.le_of_eq hg.symm)) hb); have n1_ := Ax.mk (Kd.N_below (Kd.N_elderB (by exact Kd.N_to HO163.out) gb166 (Nat.le_of_eq hg.symm)) hb); have n2_ := Ax.mk (bB (bT BK158.out) hb); have n3_ := Ax.mk (bB (bT BK159.out) hb); have n4_ := Ax.mk (bP bA hb); have n5_ := Ax.mk (hbox); have n6_ := Ax.mk ((ge_new hg : w.heap.size ≤ gb166)); have n7_ := n6_; have n8_ := Ax.mk ((ne_lt hg BK158.out : gb158 ≠ gb166)); have n9_ := Ax.mk ((ne_gt hg BK158.out : gb166 ≠ gb158)); have n10_ := Ax.mk ((ne_lt hg BK159.out : gb159 ≠ gb166)); have n11_ := Ax.mk ((ne_gt hg BK159.out : gb166 ≠ gb159)); clear HO0_1; clear HO163; clear BK158; clear BK159; clear HB; have HO0_1 := n0_; have HO163 := n1_; have BK158 := n2_; have BK159 := n3_; have HB := n4_; have BK166 := n5_; have GW166 := n6_; have GE166 := n7_; have NB158_166 := n8_; have NB166_158 := n9_; have NB159_166 := n10_; have NB166_159 := n11_; clear n0_ n1_ n2_ n3_ n4_ n5_ n6_ n7_ n8_ n9_ n10_ n11_; clear hb hbox hg; have hnb36 := NB166_158.out; have hnc36 := NB158_166.out; have hnb37 := NB166_159.out; have hnc37 := NB159_166.out; have hcz38_0 : w35.cell? ⟨gb166, 0, none⟩ = some (.int .u64 0) := (bC BK166.out 0).trans rfl; have hcz38_1 : w35.cell? ⟨gb166, 1, none⟩ = some (.slice none 0 0) := (bC BK166.out 1).trans rfl; have hcz38_2 : w35.cell? ⟨gb166, 2, none⟩ = some (.string (⟨#[]⟩ : ByteArray)) := (bC BK166.out 2).trans rfl; have hfz38_0 := bF BK166.out 0; have hfz38_1 := bF BK166.out 1; have hfz38_2 := bF BK166.out 2; obtain ⟨Ao39, co39, eo39⟩ := Kd.N_slice HO163.out; subst eo39; have hcz40_0 : w35.cell? ⟨gb159, 0, none⟩ = some (.int .u64 0) := (bC BK159.out 0).trans rfl; have hcz40_1 : w35.cell? ⟨gb159, 1, none⟩ = some (.slice none 0 0) := (bC BK159.out 1).trans rfl; have hcz40_2 : w35.cell? ⟨gb159, 2, none⟩ = some (.string (⟨#[]⟩ : ByteArray)) := (bC BK159.out 2).trans rfl; have hfz40_0 := bF BK159.out 0; have hfz40_1 := bF BK159.out 1; have hfz40_2 := bF BK159.out 2))
  refine bodyPost_ret (results_ct rfl _ _ gb159 66 #[.int .u64 0, .slice none 0 0, .string (⟨#[]⟩ : ByteArray)] (0, 0) _ rfl (by refine bT ?_; refine bU (cs := #[.int .u64 0, .slice none 0 0, .string (⟨#[]⟩ : ByteArray)]) ?_ 2 _ rfl; refine bT ?_; refine bU (cs := #[.int .u64 0, .slice none 0 0, .string (⟨#[]⟩ : ByteArray)]) ?_ 1 _ rfl; refine bT ?_; refine bU (cs := #[.int .u64 0, .slice none 0 0, .string (⟨#[]⟩ : ByteArray)]) ?_ 0 _ rfl; refine bT ?_; refine bR ?_ NB159_166.out _; refine bT ?_; refine bR ?_ NB159_166.out _; refine bT ?_; refine bR ?_ NB159_166.out _; exact bT BK159.out) Tryd.underlying66 rfl (by kernel_rfl)) rfl ?_
  exact ⟨_, by first | rfl | (simp [errW_none, errW_some] <;> rfl) | (simp [*, errW_none, errW_some] <;> rfl), by first | exact Kd.S_nil _ _ _ _ _ | exact Kd.N_nil _ _ _ _ _ | exact Kd.V_nil _ _ _ _ _ | exact Kd.Q_nil _ _ _ _ _ | exact Kd.R_nil _ _ _ _ _, bA⟩
def journal_New.f (k : Nat) (a0 : Int) (l1 : List (S24)) : Option (Int × (List (S44)) × ByteArray × Int) := (journal_Log_with.f k 0 ([] : List (S44)) (⟨#[]⟩ : ByteArray) a0 l1).bind fun bt152 => (some (bt152.1, bt152.2.1, bt152.2.2.1, bt152.2.2.2))
theorem journal_New.mono : ∀ a0 a1 k, LeO (journal_New.f k a0 a1) (journal_New.f (k + 1) a0 a1) := by
 intro a0 a1 k
 unfold journal_New.f
 repeat' first
   | (with_reducible exact journal_Log_with.mono _ _ _ _ _ _)
   | (with_reducible exact LeO.refl _)
   | (with_reducible exact LeO.none _)
   | (with_reducible refine LeO.ite ?_ ?_)
   | (with_reducible refine LeO.bind ?_ (fun _ => ?_))
   | exact journal_Log_with.mono _ _ _ _ _ _
   | exact LeO.none _
   | refine LeO.ite ?_ ?_
   | refine LeO.bind ?_ (fun _ => ?_)
set_option maxHeartbeats 8000000 in
set_option maxRecDepth 100000 in
theorem journal_New.calls (k : Nat) (a0 : Int) (A1 : Option Addr) (c1 : Nat) (l1 : List (S24)) (r1 : Int) (r2 : List (S44)) (r3 : ByteArray) (r4 : Int) (w : World) (hr1 : Kd.C k24 w A1 l1.length l1) (hc1 : l1.length ≤ c1) (h : journal_New.f k a0 l1 = some (r1, r2, r3, r4)) (HT : Tabs w) :
  Calls Tryd.prog 38 #[.int .u64 a0, .slice A1 l1.length c1] w fun e w' => ∃ v1_ : Value, e = .returned (.tuple #[.agg #[.int .u64 r1, v1_, .string r3], .int .i64 r4]) ∧ Kd.N k44 44 w' w.heap.size (fun k_ => (w.heap.size ≤ k_)) v1_ r2 ∧ Below w.heap.size w w' := by
 have hu66 := Tryd.underlying66
 have hu44 := Tryd.underlying44
 have HR1 := Ax.mk hr1
 have HC1 := Ax.mk hc1
 clear hr1 hc1
 have HB := Ax.mk (Below.refl w.heap.size w)
 have H : ((journal_Log_with.f k 0 ([] : List (S44)) (⟨#[]⟩ : ByteArray) a0 l1).bind fun bt152 => (some (bt152.1, bt152.2.1, bt152.2.2.1, bt152.2.2.2))) = some (r1, r2, r3, r4) := h
 clear h
 replace H := Option.bind_eq_some_iff.mp H
 obtain ⟨⟨t152, t153, t156, t157⟩, A30, H⟩ := H
 replace H : (some (t152, t153, t156, t157)) = some (r1, r2, r3, r4) := H
 have A3 := Ax.mk A30
 clear A30
 simp only [Option.some.injEq, Prod.mk.injEq] at H
 obtain ⟨rfl, rfl, rfl, rfl⟩ := H
 go_enter Tryd.func38, Tryd.ntmps38
 go_wp2_with (first | ((with_reducible refine gate_dst (N := 4) rfl ?_); refine box_event ?hg (N := 4) ?hd (cs := #[.int .u64 0, .slice none 0 0, .string (⟨#[]⟩ : ByteArray)]) (t := 66) ?hr ?_; (case hd => rfl); (case hg => rfl); (case hr => first | (go_simp; done) | (go_simp; rfl)); intro gb151 hg w4 hbox hb; have n0_ := Ax.mk (bP bA hb); have n1_ := Ax.mk (hbox); have n2_ := Ax.mk ((ge_new hg : w.heap.size ≤ gb151)); have n3_ := n2_; clear HB; have HB := n0_; have BK151 := n1_; have GW151 := n2_; have GE151 := n3_; clear n0_ n1_ n2_ n3_; clear hb hbox hg) | ((with_reducible refine gate_callee (f := 62) rfl ?_); refine goesL_ (some 10) rfl rfl Tryd.func62 (by kernel_rfl) rfl #[.agg #[.int .u64 0, .slice none 0 0, .string (⟨#[]⟩ : ByteArray)], .agg #[.int .u64 a0, .slice A1 l1.length c1]] rfl (by (try simp only [List.map_toArray, List.map_cons, List.map_nil]); first | done | rfl | (simp only [List.length_drop, List.length_take]; rfl) | (rw [wrap_sum2 (by assumption)]; rfl)) ?_; (refine (journal_Log_with.calls k 0 (fun k_ => False) _ _ ([] : List (S44)) (⟨#[]⟩ : ByteArray) a0 _ _ l1 t152 t153 t156 t157 _ ?side1 ?side2 ?side3 A3.out (HT.below bA)).mono ?_); (case side1 => exact Kd.V_nil _ _ _ _ _); (case side2 => repeat (first | exact (Kd.C_below HR1.out HB.out) | (with_reducible refine Kd.C_alloc ?_ _) | (with_reducible refine Kd.C_drewN ?_ _) | (with_reducible refine Kd.C_drew ?_))); (case side3 => exact HC1.out); rintro e w5 ⟨v154, rfl, ho0, hb⟩; refine ⟨_, rfl, ?_⟩; have n0_ := Ax.mk (Kd.N_lower (Kd.N_mono (ok' := fun k_ => (w.heap.size ≤ k_) ∧ k_ ≠ gb151) ho0 (fun k_ hk_ => ⟨Or.elim hk_ (fun hs_ => (hs_).elim) (fun hn_ => (Nat.le_trans (bS bA) hn_)), Or.elim hk_ (fun hs_ => (hs_).elim) (fun hn_ => (Kd.freshB (g := gb151) (o := .cells #[.int .u64 0, .slice none 0 0, .string (⟨#[]⟩ : ByteArray)] 66 (0, 0)) (bT BK151.out) k_ hn_))⟩)) (bS bA)); have n1_ := Ax.mk (bB (bT BK151.out) hb); have n2_ := Ax.mk (bP bA hb); clear BK151; clear HB; have HO155 := n0_; have BK151 := n1_; have HB := n2_; clear n0_ n1_ n2_; (try clear hb); (try clear hb2); (try clear hk); (try clear hi); (try clear ho0); have hcz6_0 : w5.cell? ⟨gb151, 0, none⟩ = some (.int .u64 0) := (bC BK151.out 0).trans rfl; have hcz6_1 : w5.cell? ⟨gb151, 1, none⟩ = some (.slice none 0 0) := (bC BK151.out 1).trans rfl; have hcz6_2 : w5.cell? ⟨gb151, 2, none⟩ = some (.string (⟨#[]⟩ : ByteArray)) := (bC BK151.out 2).trans rfl; have hfz6_0 := bF BK151.out 0; have hfz6_1 := bF BK151.out 1; have hfz6_2 := bF BK151.out 2; obtain ⟨Ao7, co7, eo7⟩ := Kd.N_slice HO155.out; subst eo7))
 refine bodyPost_ret (results_ct rfl _ _ gb151 66 #[.int .u64 t152, .slice Ao7 t153.length co7, .string t156] (0, 0) _ rfl (by refine bT ?_; refine bU (cs := #[.int .u64 t152, .slice Ao7 t153.length co7, .string (⟨#[]⟩ : ByteArray)]) ?_ 2 _ rfl; refine bT ?_; refine bU (cs := #[.int .u64 t152, .slice none 0 0, .string (⟨#[]⟩ : ByteArray)]) ?_ 1 _ rfl; refine bT ?_; refine bU (cs := #[.int .u64 0, .slice none 0 0, .string (⟨#[]⟩ : ByteArray)]) ?_ 0 _ rfl; exact bT BK151.out) Tryd.underlying66 rfl (by kernel_rfl)) rfl ?_
 exact ⟨_, by first | rfl | (simp [errW_none, errW_some] <;> rfl) | (simp [*, errW_none, errW_some] <;> rfl), by apply Kd.N_to; exact Kd.N_mono (Kd.N_far (p := ⟨gb151, 2, none⟩) (Kd.N_far (p := ⟨gb151, 1, none⟩) (Kd.N_far (p := ⟨gb151, 0, none⟩) (Kd.N_mono HO155.out (fun k_ hk => (⟨hk, hk.2⟩ : _ ∧ k_ ≠ gb151))) (fun _ hk => hk.2) (.int .u64 t152)) (fun _ hk => hk.2) (.slice Ao7 t153.length co7)) (fun _ hk => hk.2) (.string t156)) (fun _ hk => hk.1.1), bA⟩
def r13_bytes.l0 : Nat → ByteArray → Int → Int → List (S26) → Option (ByteArray × Int)
 | 0, _, _, _, _ => none
 | k + 1, x4, x5, x290000, x290001 => if x5 < (x290001.length : Int) then (if 0 ≤ x5 then ((r12_Put.f k ((rd_T26 x290001 x5).f0) ((rd_T26 x290001 x5).f1) ((rd_T26 x290001 x5).f2) ((rd_T26 x290001 x5).f3) ((rd_T26 x290001 x5).f4)).bind fun bt291 => (if bt291.2 = 0 then (if ((rd_T26 x290001 x5).f0) = 8 then (some ((⟨#[]⟩ : ByteArray), 1)) else (if x4.size + bt291.1.size ≤ 9223372036854775807 then (r13_bytes.l0 k (x4 ++ bt291.1) (wrap64 (x5 + 1)) x290000 x290001) else (none))) else (some ((⟨#[]⟩ : ByteArray), 1)))) else (none)) else ((r12_Put.f k 8 0 0 x290000 (⟨#[]⟩ : ByteArray)).bind fun bt294 => (if x4.size + bt294.1.size ≤ 9223372036854775807 then (some (x4 ++ bt294.1, 0)) else (none)))
def r13_bytes.f (k : Nat) (a0_0 : Int) (l0_1 : List (S26)) : Option (ByteArray × Int) := r13_bytes.l0 k (⟨#[]⟩ : ByteArray) 0 a0_0 l0_1
theorem r13_bytes.mono_l : ∀ k, (∀ y0 y1 y2 y3, LeO (r13_bytes.l0 k y0 y1 y2 y3) (r13_bytes.l0 (k + 1) y0 y1 y2 y3))
 | 0 => fun _ _ _ _ r h => by simp [r13_bytes.l0] at h
 | k + 1 => by
  have ih0 := r13_bytes.mono_l k
  ·intro y0 y1 y2 y3
   unfold r13_bytes.l0
   repeat' first
   | (with_reducible exact ih0 _ _ _ _)
   | (with_reducible exact r12_Put.mono _ _ _ _ _ _)
   | (with_reducible exact LeO.refl _)
   | (with_reducible exact LeO.none _)
   | (with_reducible refine LeO.ite ?_ ?_)
   | (with_reducible refine LeO.bind ?_ (fun _ => ?_))
   | exact ih0 _ _ _ _
   | exact r12_Put.mono _ _ _ _ _ _
   | exact LeO.none _
   | refine LeO.ite ?_ ?_
   | refine LeO.bind ?_ (fun _ => ?_)
theorem r13_bytes.mono : ∀ a0 a1 k, LeO (r13_bytes.f k a0 a1) (r13_bytes.f (k + 1) a0 a1) := by
 intro a0 a1 k
 have ih0 := r13_bytes.mono_l k
 unfold r13_bytes.f
 repeat' first
   | (with_reducible exact ih0 _ _ _ _)
   | (with_reducible exact r12_Put.mono _ _ _ _ _ _)
   | (with_reducible exact LeO.refl _)
   | (with_reducible exact LeO.none _)
   | (with_reducible refine LeO.ite ?_ ?_)
   | (with_reducible refine LeO.bind ?_ (fun _ => ?_))
   | exact ih0 _ _ _ _
   | exact r12_Put.mono _ _ _ _ _ _
   | exact LeO.none _
   | refine LeO.ite ?_ ?_
   | refine LeO.bind ?_ (fun _ => ?_)
set_option maxHeartbeats 8000000 in
set_option maxRecDepth 100000 in
theorem r13_bytes.calls (k : Nat) (a0_0 : Int) (A0_1 : Option Addr) (c0_1 : Nat) (l0_1 : List (S26)) (r1 : ByteArray) (r2 : Int) (w : World) (hr0_1 : Kd.C k26 w A0_1 l0_1.length l0_1) (hc0_1 : l0_1.length ≤ c0_1) (h : r13_bytes.f k a0_0 l0_1 = some (r1, r2)) :
  Calls Tryd.prog 65 #[.agg #[.int .u64 a0_0, .slice A0_1 l0_1.length c0_1]] w fun e w' => e = .returned (.tuple #[.string r1, .int .i64 r2]) ∧ Below w.heap.size w w' := by
 have hu46 := Tryd.underlying46
 have hu26 := Tryd.underlying26
 have HR0_1 := Ax.mk hr0_1
 have HC0_1 := Ax.mk hc0_1
 clear hr0_1 hc0_1
 have HB := Ax.mk (Below.refl w.heap.size w)
 have H : (r13_bytes.l0 k (⟨#[]⟩ : ByteArray) 0 a0_0 l0_1) = some (r1, r2) := h
 clear h
 have H' := Ax.mk H
 clear H
 go_enter Tryd.func65, Tryd.ntmps65
 go_wp2_with (first | ((with_reducible refine gate_dst (N := 1) rfl ?_); refine box_event ?hg (N := 1) ?hd (cs := #[.int .u64 a0_0, .slice A0_1 l0_1.length c0_1]) (t := 46) ?hr ?_; (case hd => rfl); (case hg => rfl); (case hr => first | (go_simp; done) | (go_simp; rfl)); intro gb289 hg w2 hbox hb; have n0_ := Ax.mk (bP bA hb); have n1_ := Ax.mk (hbox); have n2_ := Ax.mk ((ge_new hg : w.heap.size ≤ gb289)); have n3_ := n2_; clear HB; have HB := n0_; have BK289 := n1_; have GW289 := n2_; have GE289 := n3_; clear n0_ n1_ n2_ n3_; clear hb hbox hg))
 go_loopg [4, 5] k (fun kq v4 v5 w' => ∃ (x4_1 : ByteArray) (x5_1 : Int), v4 = .string x4_1 ∧ v5 = .int .i64 x5_1 ∧ Ax (r13_bytes.l0 kq x4_1 x5_1 a0_0 l0_1 = some (r1, r2)) ∧ Ax (kq ≤ k) ∧ Ax (w'.heap[gb289]? = some (.cells #[.int .u64 a0_0, (.slice A0_1 l0_1.length c0_1)] 46 (0, 0))) ∧ Ax (Below w.heap.size w w'))
 case atStart => exact ⟨((⟨#[]⟩ : ByteArray)), (0), (by first | rfl | (simp; done) | (simp [*]; done)), (by first | rfl | (simp; done) | (simp [*]; done)), H', ⟨Nat.le_refl _⟩, ⟨by refine bT ?_; exact BK289.out⟩, ⟨bA⟩⟩
 case round =>
  clear H'
  try clear p2
  obtain ⟨x4_1, x5_1, rfl, rfl, HA, HK1, BK289, HB⟩ := hrel
  cases gk with
  | zero => exact absurd HA.out (by simp [r13_bytes.l0])
  | succ k1 =>
   have H := HA.out
   clear HA
   simp only [r13_bytes.l0] at H
   by_cases c3 : x5_1 < (l0_1.length : Int)
   ·rw [if_pos c3] at H
    have c3b0 : decide (x5_1 < (l0_1.length : Int)) = true := decide_eq_true c3
    clear c3
    by_cases c4 : 0 ≤ x5_1
    ·rw [if_pos c4] at H
     have c4b0 : decide (0 ≤ x5_1) = true := decide_eq_true c4
     clear c4
     replace H := Option.bind_eq_some_iff.mp H
     obtain ⟨⟨t291, t292⟩, A50, H⟩ := H
     replace H : (if t292 = 0 then (if ((rd_T26 l0_1 x5_1).f0) = 8 then (some ((⟨#[]⟩ : ByteArray), 1)) else (if x4_1.size + t291.size ≤ 9223372036854775807 then (r13_bytes.l0 k1 (x4_1 ++ t291) (wrap64 (x5_1 + 1)) a0_0 l0_1) else (none))) else (some ((⟨#[]⟩ : ByteArray), 1))) = some (r1, r2) := H
     have A5 := Ax.mk A50
     clear A50
     by_cases c6 : t292 = 0
     ·rw [if_pos c6] at H
      have c6b0 : (t292 == 0) = true := beq_iff_eq.mpr c6
      have c6b1 : (t292 != 0) = false := bne_eq_false_iff_eq.mpr c6
      clear c6
      by_cases c7 : ((rd_T26 l0_1 x5_1).f0) = 8
      ·rw [if_pos c7] at H
       have c7b0 : (((rd_T26 l0_1 x5_1).f0) == 8) = true := beq_iff_eq.mpr c7
       have c7b1 : (((rd_T26 l0_1 x5_1).f0) != 8) = false := bne_eq_false_iff_eq.mpr c7
       clear c7
       simp only [Option.some.injEq, Prod.mk.injEq] at H
       obtain ⟨rfl, rfl⟩ := H
       have hcz8_0 : wr.cell? ⟨gb289, 0, none⟩ = some (.int .u64 a0_0) := (bC BK289.out 0).trans rfl
       have hcz8_1 : wr.cell? ⟨gb289, 1, none⟩ = some (.slice A0_1 l0_1.length c0_1) := (bC BK289.out 1).trans rfl
       have hfz8_0 := bF BK289.out 0
       have hfz8_1 := bF BK289.out 1
       have p290 : 0 ≤ (x5_1 : Int) := ofD
       have q290 : x5_1 < (l0_1.length : Int) := ofD
       obtain ⟨ad290, e290, hx290_0, hx290_1, hx290_2, hx290_3, hx290_4⟩ := at_T26 HR0_1.out x5_1 p290 q290
       cases e290
       replace hx290_0 := (HB.out.cell (World.block_lt_of_cell? w _ hx290_0)).trans hx290_0
       replace hx290_1 := (HB.out.cell (World.block_lt_of_cell? w _ hx290_1)).trans hx290_1
       replace hx290_2 := (HB.out.cell (World.block_lt_of_cell? w _ hx290_2)).trans hx290_2
       replace hx290_3 := (HB.out.cell (World.block_lt_of_cell? w _ hx290_3)).trans hx290_3
       replace hx290_4 := (HB.out.cell (World.block_lt_of_cell? w _ hx290_4)).trans hx290_4
       replace p290 := eq_true p290
       replace q290 := eq_true q290
       go_wp2_with (first | ((with_reducible refine gate_callee (f := 20) rfl ?_); refine goesL_ (some 23) rfl rfl Tryd.func20 (by kernel_rfl) rfl #[.agg #[.int .i64 ((rd_T26 l0_1 x5_1).f0), .int .i64 ((rd_T26 l0_1 x5_1).f1), .int .i64 ((rd_T26 l0_1 x5_1).f2), .int .u64 ((rd_T26 l0_1 x5_1).f3), .string ((rd_T26 l0_1 x5_1).f4)]] rfl (by (try simp only [List.map_toArray, List.map_cons, List.map_nil]); first | done | rfl | (simp only [List.length_drop, List.length_take]; rfl) | (rw [wrap_sum2 (by assumption)]; rfl)) ?_; (with_reducible refine (r12_Put.calls k1 ((rd_T26 l0_1 x5_1).f0) ((rd_T26 l0_1 x5_1).f1) ((rd_T26 l0_1 x5_1).f2) ((rd_T26 l0_1 x5_1).f3) ((rd_T26 l0_1 x5_1).f4) t291 t292 _ A5.out).mono ?_); rintro e w9 ⟨rfl, hb⟩; refine ⟨_, rfl, ?_⟩; have n0_ := Ax.mk (bB (bT BK289.out) hb); have n1_ := Ax.mk (bP bA hb); clear BK289; clear HB; have BK289 := n0_; have HB := n1_; clear n0_ n1_; (try clear hb); (try clear hb2); (try clear hk); (try clear hi); have hcz10_0 : w9.cell? ⟨gb289, 0, none⟩ = some (.int .u64 a0_0) := (bC BK289.out 0).trans rfl; have hcz10_1 : w9.cell? ⟨gb289, 1, none⟩ = some (.slice (some ad290) l0_1.length c0_1) := (bC BK289.out 1).trans rfl; have hfz10_0 := bF BK289.out 0; have hfz10_1 := bF BK289.out 1; have p293 : 0 ≤ (x5_1 : Int) := ofD; have q293 : x5_1 < (l0_1.length : Int) := ofD; obtain ⟨ad293, e293, hx293_0, hx293_1, hx293_2, hx293_3, hx293_4⟩ := at_T26 HR0_1.out x5_1 p293 q293; obtain rfl : ad290 = ad293 := (by injection e293); replace hx293_0 := (HB.out.cell (World.block_lt_of_cell? w _ hx293_0)).trans hx293_0; replace hx293_1 := (HB.out.cell (World.block_lt_of_cell? w _ hx293_1)).trans hx293_1; replace hx293_2 := (HB.out.cell (World.block_lt_of_cell? w _ hx293_2)).trans hx293_2; replace hx293_3 := (HB.out.cell (World.block_lt_of_cell? w _ hx293_3)).trans hx293_3; replace hx293_4 := (HB.out.cell (World.block_lt_of_cell? w _ hx293_4)).trans hx293_4; replace p293 := eq_true p293; replace q293 := eq_true q293))
       go_ret2
       exact ⟨by first | rfl | (simp [errW_none, errW_some] <;> rfl) | (simp [*, errW_none, errW_some] <;> rfl), bA⟩
      ·rw [if_neg c7] at H
       have c7b0 : (((rd_T26 l0_1 x5_1).f0) == 8) = false := beq_eq_false_iff_ne.mpr c7
       have c7b1 : (((rd_T26 l0_1 x5_1).f0) != 8) = true := bne_iff_ne.mpr c7
       by_cases c11 : x4_1.size + t291.size ≤ 9223372036854775807
       ·rw [if_pos c11] at H
        have c11b0 := eq_true c11
        have c11b1 : decide (x4_1.size + t291.size ≤ 9223372036854775807) = true := decide_eq_true c11
        try have c11b2 : (9223372036854775807 < x4_1.size + t291.size) = False := eq_false (Nat.not_lt.2 c11)
        have H' := Ax.mk H
        clear H
        have hcz12_0 : wr.cell? ⟨gb289, 0, none⟩ = some (.int .u64 a0_0) := (bC BK289.out 0).trans rfl
        have hcz12_1 : wr.cell? ⟨gb289, 1, none⟩ = some (.slice A0_1 l0_1.length c0_1) := (bC BK289.out 1).trans rfl
        have hfz12_0 := bF BK289.out 0
        have hfz12_1 := bF BK289.out 1
        have p290 : 0 ≤ (x5_1 : Int) := ofD
        have q290 : x5_1 < (l0_1.length : Int) := ofD
        obtain ⟨ad290, e290, hx290_0, hx290_1, hx290_2, hx290_3, hx290_4⟩ := at_T26 HR0_1.out x5_1 p290 q290
        cases e290
        replace hx290_0 := (HB.out.cell (World.block_lt_of_cell? w _ hx290_0)).trans hx290_0
        replace hx290_1 := (HB.out.cell (World.block_lt_of_cell? w _ hx290_1)).trans hx290_1
        replace hx290_2 := (HB.out.cell (World.block_lt_of_cell? w _ hx290_2)).trans hx290_2
        replace hx290_3 := (HB.out.cell (World.block_lt_of_cell? w _ hx290_3)).trans hx290_3
        replace hx290_4 := (HB.out.cell (World.block_lt_of_cell? w _ hx290_4)).trans hx290_4
        replace p290 := eq_true p290
        replace q290 := eq_true q290
        go_wp2_with (first | ((with_reducible refine gate_callee (f := 20) rfl ?_); refine goesL_ (some 23) rfl rfl Tryd.func20 (by kernel_rfl) rfl #[.agg #[.int .i64 ((rd_T26 l0_1 x5_1).f0), .int .i64 ((rd_T26 l0_1 x5_1).f1), .int .i64 ((rd_T26 l0_1 x5_1).f2), .int .u64 ((rd_T26 l0_1 x5_1).f3), .string ((rd_T26 l0_1 x5_1).f4)]] rfl (by (try simp only [List.map_toArray, List.map_cons, List.map_nil]); first | done | rfl | (simp only [List.length_drop, List.length_take]; rfl) | (rw [wrap_sum2 (by assumption)]; rfl)) ?_; (with_reducible refine (r12_Put.calls k1 ((rd_T26 l0_1 x5_1).f0) ((rd_T26 l0_1 x5_1).f1) ((rd_T26 l0_1 x5_1).f2) ((rd_T26 l0_1 x5_1).f3) ((rd_T26 l0_1 x5_1).f4) t291 t292 _ A5.out).mono ?_); rintro e w13 ⟨rfl, hb⟩; refine ⟨_, rfl, ?_⟩; have n0_ := Ax.mk (bB (bT BK289.out) hb); have n1_ := Ax.mk (bP bA hb); clear BK289; clear HB; have BK289 := n0_; have HB := n1_; clear n0_ n1_; (try clear hb); (try clear hb2); (try clear hk); (try clear hi); have hcz14_0 : w13.cell? ⟨gb289, 0, none⟩ = some (.int .u64 a0_0) := (bC BK289.out 0).trans rfl; have hcz14_1 : w13.cell? ⟨gb289, 1, none⟩ = some (.slice (some ad290) l0_1.length c0_1) := (bC BK289.out 1).trans rfl; have hfz14_0 := bF BK289.out 0; have hfz14_1 := bF BK289.out 1; have p293 : 0 ≤ (x5_1 : Int) := ofD; have q293 : x5_1 < (l0_1.length : Int) := ofD; obtain ⟨ad293, e293, hx293_0, hx293_1, hx293_2, hx293_3, hx293_4⟩ := at_T26 HR0_1.out x5_1 p293 q293; obtain rfl : ad290 = ad293 := (by injection e293); replace hx293_0 := (HB.out.cell (World.block_lt_of_cell? w _ hx293_0)).trans hx293_0; replace hx293_1 := (HB.out.cell (World.block_lt_of_cell? w _ hx293_1)).trans hx293_1; replace hx293_2 := (HB.out.cell (World.block_lt_of_cell? w _ hx293_2)).trans hx293_2; replace hx293_3 := (HB.out.cell (World.block_lt_of_cell? w _ hx293_3)).trans hx293_3; replace hx293_4 := (HB.out.cell (World.block_lt_of_cell? w _ hx293_4)).trans hx293_4; replace p293 := eq_true p293; replace q293 := eq_true q293))
        go_roundg k1
        case measure => have := HK1.out; omega
        case rel => exact ⟨(x4_1 ++ t291), (wrap64 (x5_1 + 1)), (by first | rfl | (simp; done) | (simp [*]; done)), (by first | rfl | (simp; done) | (simp [*]; done)), H', ⟨by have := HK1.out; omega⟩, ⟨by refine bT ?_; exact BK289.out⟩, ⟨bA⟩⟩
       ·rw [if_neg c11] at H
        exact absurd H (by simp)
     ·rw [if_neg c6] at H
      have c6b0 : (t292 == 0) = false := beq_eq_false_iff_ne.mpr c6
      have c6b1 : (t292 != 0) = true := bne_iff_ne.mpr c6
      simp only [Option.some.injEq, Prod.mk.injEq] at H
      obtain ⟨rfl, rfl⟩ := H
      have hcz15_0 : wr.cell? ⟨gb289, 0, none⟩ = some (.int .u64 a0_0) := (bC BK289.out 0).trans rfl
      have hcz15_1 : wr.cell? ⟨gb289, 1, none⟩ = some (.slice A0_1 l0_1.length c0_1) := (bC BK289.out 1).trans rfl
      have hfz15_0 := bF BK289.out 0
      have hfz15_1 := bF BK289.out 1
      have p290 : 0 ≤ (x5_1 : Int) := ofD
      have q290 : x5_1 < (l0_1.length : Int) := ofD
      obtain ⟨ad290, e290, hx290_0, hx290_1, hx290_2, hx290_3, hx290_4⟩ := at_T26 HR0_1.out x5_1 p290 q290
      cases e290
      replace hx290_0 := (HB.out.cell (World.block_lt_of_cell? w _ hx290_0)).trans hx290_0
      replace hx290_1 := (HB.out.cell (World.block_lt_of_cell? w _ hx290_1)).trans hx290_1
      replace hx290_2 := (HB.out.cell (World.block_lt_of_cell? w _ hx290_2)).trans hx290_2
      replace hx290_3 := (HB.out.cell (World.block_lt_of_cell? w _ hx290_3)).trans hx290_3
      replace hx290_4 := (HB.out.cell (World.block_lt_of_cell? w _ hx290_4)).trans hx290_4
      replace p290 := eq_true p290
      replace q290 := eq_true q290
      go_wp2_with (first | ((with_reducible refine gate_callee (f := 20) rfl ?_); refine goesL_ (some 23) rfl rfl Tryd.func20 (by kernel_rfl) rfl #[.agg #[.int .i64 ((rd_T26 l0_1 x5_1).f0), .int .i64 ((rd_T26 l0_1 x5_1).f1), .int .i64 ((rd_T26 l0_1 x5_1).f2), .int .u64 ((rd_T26 l0_1 x5_1).f3), .string ((rd_T26 l0_1 x5_1).f4)]] rfl (by (try simp only [List.map_toArray, List.map_cons, List.map_nil]); first | done | rfl | (simp only [List.length_drop, List.length_take]; rfl) | (rw [wrap_sum2 (by assumption)]; rfl)) ?_; (with_reducible refine (r12_Put.calls k1 ((rd_T26 l0_1 x5_1).f0) ((rd_T26 l0_1 x5_1).f1) ((rd_T26 l0_1 x5_1).f2) ((rd_T26 l0_1 x5_1).f3) ((rd_T26 l0_1 x5_1).f4) t291 t292 _ A5.out).mono ?_); rintro e w16 ⟨rfl, hb⟩; refine ⟨_, rfl, ?_⟩; have n0_ := Ax.mk (bB (bT BK289.out) hb); have n1_ := Ax.mk (bP bA hb); clear BK289; clear HB; have BK289 := n0_; have HB := n1_; clear n0_ n1_; (try clear hb); (try clear hb2); (try clear hk); (try clear hi)))
      go_ret2
      exact ⟨by first | rfl | (simp [errW_none, errW_some] <;> rfl) | (simp [*, errW_none, errW_some] <;> rfl), bA⟩
    ·rw [if_neg c4] at H
     exact absurd H (by simp)
   ·rw [if_neg c3] at H
    have c3b0 : decide (x5_1 < (l0_1.length : Int)) = false := decide_eq_false c3
    clear c3
    replace H := Option.bind_eq_some_iff.mp H
    obtain ⟨⟨t294, t295⟩, A170, H⟩ := H
    replace H : (if x4_1.size + t294.size ≤ 9223372036854775807 then (some (x4_1 ++ t294, 0)) else (none)) = some (r1, r2) := H
    have A17 := Ax.mk A170
    clear A170
    by_cases c18 : x4_1.size + t294.size ≤ 9223372036854775807
    ·rw [if_pos c18] at H
     have c18b0 := eq_true c18
     have c18b1 : decide (x4_1.size + t294.size ≤ 9223372036854775807) = true := decide_eq_true c18
     try have c18b2 : (9223372036854775807 < x4_1.size + t294.size) = False := eq_false (Nat.not_lt.2 c18)
     simp only [Option.some.injEq, Prod.mk.injEq] at H
     obtain ⟨rfl, rfl⟩ := H
     have hcz19_0 : wr.cell? ⟨gb289, 0, none⟩ = some (.int .u64 a0_0) := (bC BK289.out 0).trans rfl
     have hcz19_1 : wr.cell? ⟨gb289, 1, none⟩ = some (.slice A0_1 l0_1.length c0_1) := (bC BK289.out 1).trans rfl
     have hfz19_0 := bF BK289.out 0
     have hfz19_1 := bF BK289.out 1
     go_wp2_with (first | ((with_reducible refine gate_callee (f := 20) rfl ?_); refine goesL_ (some 44) rfl rfl Tryd.func20 (by kernel_rfl) rfl #[.agg #[.int .i64 8, .int .i64 0, .int .i64 0, .int .u64 a0_0, .string (⟨#[]⟩ : ByteArray)]] rfl (by (try simp only [List.map_toArray, List.map_cons, List.map_nil]); first | done | rfl | (simp only [List.length_drop, List.length_take]; rfl) | (rw [wrap_sum2 (by assumption)]; rfl)) ?_; (with_reducible refine (r12_Put.calls k1 8 0 0 a0_0 (⟨#[]⟩ : ByteArray) t294 t295 _ A17.out).mono ?_); rintro e w20 ⟨rfl, hb⟩; refine ⟨_, rfl, ?_⟩; have n0_ := Ax.mk (bB (bT BK289.out) hb); have n1_ := Ax.mk (bP bA hb); clear BK289; clear HB; have BK289 := n0_; have HB := n1_; clear n0_ n1_; (try clear hb); (try clear hb2); (try clear hk); (try clear hi)))
     go_ret2
     exact ⟨by first | rfl | (simp [errW_none, errW_some] <;> rfl) | (simp [*, errW_none, errW_some] <;> rfl), bA⟩
    ·rw [if_neg c18] at H
     exact absurd H (by simp)
def r13_Add.f (k : Nat) (a0_0 : Int) (l0_1 : List (S46)) (a0_2 : ByteArray) (l1 : List (S26)) : Option (Int × (List (S46)) × ByteArray × Int) := (r13_bytes.f k (IntKind.u64.wrap (a0_0 + 1)) l1).bind fun bt265 => (if bt265.2 = 0 then (if a0_0 = 18446744073709551615 then (some (0, ([] : List (S46)), (⟨#[]⟩ : ByteArray), 14)) else ((some (([] : List (S46)) : List (S46))).bind fun y267 => (if y267.length + l0_1.length < 4398046511104 then ((some (y267 ++ l0_1 : List (S46))).bind fun y270 => ((some (([(⟨IntKind.u64.wrap (a0_0 + 1), l1⟩ : S46)] : List (S46)) : List (S46))).bind fun y273 => (if y270.length + y273.length < 4398046511104 then (if a0_2.size + bt265.1.size ≤ 9223372036854775807 then (some (IntKind.u64.wrap (a0_0 + 1), (y270 ++ y273), a0_2 ++ bt265.1, 0)) else (none)) else (none)))) else (none)))) else (some (0, ([] : List (S46)), (⟨#[]⟩ : ByteArray), bt265.2)))
theorem r13_Add.mono : ∀ a0 a1 a2 a3 k, LeO (r13_Add.f k a0 a1 a2 a3) (r13_Add.f (k + 1) a0 a1 a2 a3) := by
 intro a0 a1 a2 a3 k
 unfold r13_Add.f
 repeat' first
   | (with_reducible exact r13_bytes.mono _ _ _)
   | (with_reducible exact LeO.refl _)
   | (with_reducible exact LeO.none _)
   | (with_reducible refine LeO.ite ?_ ?_)
   | (with_reducible refine LeO.bind ?_ (fun _ => ?_))
   | exact r13_bytes.mono _ _ _
   | exact LeO.none _
   | refine LeO.ite ?_ ?_
   | refine LeO.bind ?_ (fun _ => ?_)
def r13_Add.T7 : Bool × List (List Nat × List Nat) := (true, [([], []), ([0], [0]), ([1], [1]), ([], []), ([], []), ([4], [4]), ([3, 5], [3, 5]), ([], []), ([7], [7]), ([6, 8, 6], [6, 8]), ([], []), ([10], [10]), ([], []), ([11, 12], [11, 12]), ([2, 9, 13], [2, 9, 13]), ([14, 9, 0, 1, 2, 3, 4, 5, 6, 7, 8, 9, 10, 11, 12, 13, 14], [14]), ([15, 0, 1, 2, 3, 4, 5, 6, 7, 8, 9, 10, 11, 12, 13, 14, 15], [])])
def r13_Add.B7 : List Nat := [0, 1, 3, 0, 0, 16, 56, 0, 128, 504, 0, 1024, 0, 7168, 16383, 32767, 65535]
def r13_New.f (k : Nat) (a0 : Int) (l1 : List (S26)) : Option (Int × (List (S46)) × ByteArray × Int) := (r13_bytes.f k a0 l1).bind fun bt257 => (if bt257.2 = 0 then (some (a0, (([(⟨a0, l1⟩ : S46)] : List (S46))), bt257.1, 0)) else (some (0, ([] : List (S46)), (⟨#[]⟩ : ByteArray), bt257.2)))
theorem r13_New.mono : ∀ a0 a1 k, LeO (r13_New.f k a0 a1) (r13_New.f (k + 1) a0 a1) := by
 intro a0 a1 k
 unfold r13_New.f
 repeat' first
   | (with_reducible exact r13_bytes.mono _ _ _)
   | (with_reducible exact LeO.refl _)
   | (with_reducible exact LeO.none _)
   | (with_reducible refine LeO.ite ?_ ?_)
   | (with_reducible refine LeO.bind ?_ (fun _ => ?_))
   | exact r13_bytes.mono _ _ _
   | exact LeO.none _
   | refine LeO.ite ?_ ?_
   | refine LeO.bind ?_ (fun _ => ?_)
def journal_After.l0 : Nat → Int → List (S24) → List (S44) → Int → Int → Option ((List (S24)))
 | 0, _, _, _, _, _ => none
 | k + 1, x1, x5, x9, x10, x11 => if x11 < x10 then (if 0 ≤ x11 then (if x11 < (x9.length : Int) then (if ((rd_T44 x9 x11).f0) > x1 then (if x5.length + ((rd_T44 x9 x11).f1).length < 2932031007402 then (journal_After.l0 k x1 (x5 ++ ((rd_T44 x9 x11).f1)) x9 x10 (wrap64 (x11 + 1))) else (none)) else (journal_After.l0 k x1 x5 x9 x10 (wrap64 (x11 + 1)))) else (none)) else (none)) else (some x5)
def journal_After.f (k : Nat) (a0_0 : Int) (l0_1 : List (S44)) (a0_2 : ByteArray) (a1 : Int) : Option ((List (S24))) := journal_After.l0 k a1 ([] : List (S24)) l0_1 (l0_1.length : Int) 0
theorem journal_After.mono_l : ∀ k, (∀ y0 y1 y2 y3 y4, LeO (journal_After.l0 k y0 y1 y2 y3 y4) (journal_After.l0 (k + 1) y0 y1 y2 y3 y4))
 | 0 => fun _ _ _ _ _ r h => by simp [journal_After.l0] at h
 | k + 1 => by
  have ih0 := journal_After.mono_l k
  ·intro y0 y1 y2 y3 y4
   unfold journal_After.l0
   repeat' first
   | (with_reducible exact ih0 _ _ _ _ _)
   | (with_reducible exact LeO.refl _)
   | (with_reducible exact LeO.none _)
   | (with_reducible refine LeO.ite ?_ ?_)
   | (with_reducible refine LeO.bind ?_ (fun _ => ?_))
   | exact ih0 _ _ _ _ _
   | exact LeO.none _
   | refine LeO.ite ?_ ?_
   | refine LeO.bind ?_ (fun _ => ?_)
theorem journal_After.mono : ∀ a0 a1 a2 a3 k, LeO (journal_After.f k a0 a1 a2 a3) (journal_After.f (k + 1) a0 a1 a2 a3) := by
 intro a0 a1 a2 a3 k
 have ih0 := journal_After.mono_l k
 unfold journal_After.f
 repeat' first
   | (with_reducible exact ih0 _ _ _ _ _)
   | (with_reducible exact LeO.refl _)
   | (with_reducible exact LeO.none _)
   | (with_reducible refine LeO.ite ?_ ?_)
   | (with_reducible refine LeO.bind ?_ (fun _ => ?_))
   | exact ih0 _ _ _ _ _
   | exact LeO.none _
   | refine LeO.ite ?_ ?_
   | refine LeO.bind ?_ (fun _ => ?_)
set_option maxHeartbeats 8000000 in
set_option maxRecDepth 100000 in
theorem journal_After.calls (k : Nat) (a0_0 : Int) (A0_1 : Option Addr) (c0_1 : Nat) (l0_1 : List (S44)) (a0_2 : ByteArray) (a1 : Int) (r : List (S24)) (w : World) (hr0_1 : Kd.C k44 w A0_1 l0_1.length l0_1) (hc0_1 : l0_1.length ≤ c0_1) (h : journal_After.f k a0_0 l0_1 a0_2 a1 = some r) :
  Calls Tryd.prog 36 #[.agg #[.int .u64 a0_0, .slice A0_1 l0_1.length c0_1, .string a0_2], .int .u64 a1] w fun e w' => ∃ v0_ : Value, e = .returned (v0_) ∧ Kd.R k24 24 w' w.heap.size (fun _ => True) v0_ r ∧ Below w.heap.size w w' := by
 have hu66 := Tryd.underlying66
 have hu44 := Tryd.underlying44
 have HR0_1 := Ax.mk hr0_1
 have HC0_1 := Ax.mk hc0_1
 clear hr0_1 hc0_1
 have HB := Ax.mk (Below.refl w.heap.size w)
 have H : (journal_After.l0 k a1 ([] : List (S24)) l0_1 (l0_1.length : Int) 0) = some r := h
 clear h
 have H' := Ax.mk H
 clear H
 go_enter Tryd.func36, Tryd.ntmps36
 go_wp2_with (first | ((with_reducible refine gate_dst (N := 2) rfl ?_); refine box_event ?hg (N := 2) ?hd (cs := #[.int .u64 a0_0, .slice A0_1 l0_1.length c0_1, .string a0_2]) (t := 66) ?hr ?_; (case hd => rfl); (case hg => rfl); (case hr => first | (go_simp; done) | (go_simp; rfl)); intro gb101 hg w3 hbox hb; have n0_ := Ax.mk (bP bA hb); have n1_ := Ax.mk (hbox); have n2_ := Ax.mk ((ge_new hg : w.heap.size ≤ gb101)); have n3_ := n2_; clear HB; have HB := n0_; have BK101 := n1_; have GW101 := n2_; have GE101 := n3_; clear n0_ n1_ n2_ n3_; clear hb hbox hg; have hcz4_0 : w3.cell? ⟨gb101, 0, none⟩ = some (.int .u64 a0_0) := (bC BK101.out 0).trans rfl; have hcz4_1 : w3.cell? ⟨gb101, 1, none⟩ = some (.slice A0_1 l0_1.length c0_1) := (bC BK101.out 1).trans rfl; have hcz4_2 : w3.cell? ⟨gb101, 2, none⟩ = some (.string a0_2) := (bC BK101.out 2).trans rfl; have hfz4_0 := bF BK101.out 0; have hfz4_1 := bF BK101.out 1; have hfz4_2 := bF BK101.out 2))
 go_loopg [5, 11] k (fun kq v5 v11 w' => ∃ (x5_1 : List (S24)) (x11_1 : Int), v11 = .int .i64 x11_1 ∧ Ax (journal_After.l0 kq a1 x5_1 l0_1 (l0_1.length : Int) x11_1 = some r) ∧ Ax (kq ≤ k) ∧ Ax (Kd.R k24 24 w' w.heap.size (fun _ => True) v5 x5_1) ∧ Ax (w'.heap[gb101]? = some (.cells #[.int .u64 a0_0, (.slice A0_1 l0_1.length c0_1), .string a0_2] 66 (0, 0))) ∧ Ax (Below w.heap.size w w'))
 case atStart => exact ⟨(([] : List (S24))), (0), (by first | rfl | (simp; done) | (simp [*]; done)), H', ⟨Nat.le_refl _⟩, ⟨by first | exact Kd.R_nil _ _ _ _ _ | exact Kd.N_nil _ _ _ _ _ | exact Kd.V_nil _ _ _ _ _ | exact Kd.Q_nil _ _ _ _ _ | exact Kd.S_nil _ _ _ _ _⟩, ⟨by refine bT ?_; exact BK101.out⟩, ⟨bA⟩⟩
 case round =>
  clear H'
  try clear p2
  try clear c3
  try clear hcz4_0
  try clear hcz4_1
  try clear hcz4_2
  try clear hfz4_0
  try clear hfz4_1
  try clear hfz4_2
  obtain ⟨x5_1, x11_1, rfl, HA, HK1, HO_5, BK101, HB⟩ := hrel
  cases gk with
  | zero => exact absurd HA.out (by simp [journal_After.l0])
  | succ k1 =>
   have H := HA.out
   clear HA
   simp only [journal_After.l0] at H
   by_cases c5 : x11_1 < (l0_1.length : Int)
   ·rw [if_pos c5] at H
    have c5b0 : decide (x11_1 < (l0_1.length : Int)) = true := decide_eq_true c5
    clear c5
    by_cases c6 : 0 ≤ x11_1
    ·rw [if_pos c6] at H
     have c6b0 : decide (0 ≤ x11_1) = true := decide_eq_true c6
     clear c6
     by_cases c7 : x11_1 < (l0_1.length : Int)
     ·rw [if_pos c7] at H
      have c7b0 : decide (x11_1 < (l0_1.length : Int)) = true := decide_eq_true c7
      clear c7
      by_cases c8 : ((rd_T44 l0_1 x11_1).f0) > a1
      ·rw [if_pos c8] at H
       have c8b0 : decide (a1 < ((rd_T44 l0_1 x11_1).f0)) = true := decide_eq_true c8
       clear c8
       by_cases c9 : x5_1.length + ((rd_T44 l0_1 x11_1).f1).length < 2932031007402
       ·rw [if_pos c9] at H
        have LMc9 := Ax.mk c9
        clear c9
        obtain ⟨y104, hy104⟩ : ∃ y_ : List (S24), y_ = (x5_1 ++ ((rd_T44 l0_1 x11_1).f1)) := ⟨_, rfl⟩
        replace H : (journal_After.l0 k1 a1 y104 l0_1 (l0_1.length : Int) (wrap64 (x11_1 + 1))) = some r := by first | (rw [hy104]; with_reducible exact H) | (have H2_ := (Option.bind_some _ _).symm.trans H; rw [hy104]; with_reducible exact H2_) | (have H2_ := (Option.bind_some _ _).symm.trans H; with_reducible exact H2_) | with_reducible exact H | (rw [hy104]; exact H) | exact H
        have Ny104 := Ax.mk hy104
        clear hy104
        have H' := Ax.mk H
        clear H
        have p102 : 0 ≤ (x11_1 : Int) := ofD
        have q102 : x11_1 < (l0_1.length : Int) := ofD
        obtain ⟨ad102, A102_1, c102_1, e102, hx102_0, hx102_1, hl102_1, hi102_1⟩ := at_T44 HR0_1.out x11_1 p102 q102
        cases e102
        replace hx102_0 := (HB.out.cell (World.block_lt_of_cell? w _ hx102_0)).trans hx102_0
        replace hx102_1 := (HB.out.cell (World.block_lt_of_cell? w _ hx102_1)).trans hx102_1
        have HR102_1 := Ax.mk hi102_1
        have HC102_1 := Ax.mk hl102_1
        clear hi102_1 hl102_1
        replace p102 := eq_true p102
        replace q102 := eq_true q102
        go_wp2_with (first | ((with_reducible refine gate_dst (N := 7) rfl ?_); refine box_event ?hg (N := 7) ?hd (cs := #[.int .u64 0, .slice none 0 0]) (t := 44) ?hr ?_; (case hd => rfl); (case hg => rfl); (case hr => first | (go_simp; done) | (go_simp; rfl)); intro gb103 hg w10 hbox hb; have n0_ := Ax.mk (Kd.R_below (by exact Kd.R_to HO_5.out) hb); have n1_ := Ax.mk (bB (bT BK101.out) hb); have n2_ := Ax.mk (bP bA hb); have n3_ := Ax.mk (hbox); have n4_ := Ax.mk ((ge_new hg : w.heap.size ≤ gb103)); have n5_ := n4_; have n6_ := Ax.mk ((ne_lt hg BK101.out : gb101 ≠ gb103)); have n7_ := Ax.mk ((ne_gt hg BK101.out : gb103 ≠ gb101)); clear HO_5; clear BK101; clear HB; have HO_5 := n0_; have BK101 := n1_; have HB := n2_; have BK103 := n3_; have GW103 := n4_; have GE103 := n5_; have NB101_103 := n6_; have NB103_101 := n7_; clear n0_ n1_ n2_ n3_ n4_ n5_ n6_ n7_; clear hb hbox hg; have hnb11 := NB103_101.out; have hnc11 := NB101_103.out; have hcz12_0 : w10.cell? ⟨gb103, 0, none⟩ = some (.int .u64 0) := (bC BK103.out 0).trans rfl; have hcz12_1 : w10.cell? ⟨gb103, 1, none⟩ = some (.slice none 0 0) := (bC BK103.out 1).trans rfl; have hfz12_0 := bF BK103.out 0; have hfz12_1 := bF BK103.out 1) | ((with_reducible refine gate_builtin (b := .append) (xs := #[.tmp 19, .tmp 21]) rfl ?_); at_builtin; refine Kd.R_append_rows k24 (w0 := w) w.heap.size rfl (.tmp 19) (.tmp 21) 29 24 (.agg #[(.int .i64 0), (.int .i64 0), (.int .i64 0), (.int .u64 0), (.string ⟨#[]⟩)]) 48 rfl Tryd.underlying29 info24 rfl (by decide) (by omega) u5 x5_1 ((rd_T44 l0_1 x11_1).f1) _ _ _ (fun _ => True) (fun _ => False) rfl rfl ?aO ?aR (fun _ _ h => h) (fun _ h => h.elim) ?aF ?aB ?aS ?aL ?_; (case aR => exact Kd.C_below HR102_1.out bA); (case aB => exact bA); (case aF => exact (fun _ _ => trivial)); (case aO => exact (by apply Kd.R_to; exact Kd.R_mono (Kd.R_far (p := ⟨gb103, 1, none⟩) (Kd.R_far (p := ⟨gb103, 0, none⟩) (Kd.R_types HO_5.out BK103.out (by decide)) (fun _ hk => hk.2) (.int .u64 ((rd_T44 l0_1 x11_1).f0))) (fun _ hk => hk.2) (.slice A102_1 ((rd_T44 l0_1 x11_1).f1).length c102_1)) (fun _ hk => trivial))); (case aS => exact (bS bA)); (case aL => have := LMc9.out; omega); intro v105 w13 ho hb hg hat; rw [← Ny104.out] at ho; have n0_ := Ax.mk (blk_grown (g := gb101) (o := .cells #[.int .u64 a0_0, .slice (some ad102) l0_1.length c0_1, .string a0_2] 66 (0, 0)) (by refine bT ?_; refine bR ?_ NB101_103.out _; refine bT ?_; refine bR ?_ NB101_103.out _; exact bT BK101.out) hg (Kd.R_ne HO_5.out BK101.out (by decide))); have n1_ := Ax.mk (blk_grown (g := gb103) (o := .cells #[.int .u64 ((rd_T44 l0_1 x11_1).f0), .slice A102_1 ((rd_T44 l0_1 x11_1).f1).length c102_1] 44 (0, 0)) (by refine bT ?_; refine bU (cs := #[.int .u64 ((rd_T44 l0_1 x11_1).f0), .slice none 0 0]) ?_ 1 _ rfl; refine bT ?_; refine bU (cs := #[.int .u64 0, .slice none 0 0]) ?_ 0 _ rfl; exact bT BK103.out) hg (Kd.R_ne HO_5.out BK103.out (by decide))); have n2_ := Ax.mk (hb); have n3_ := Ax.mk (ho); clear BK101; clear BK103; clear HB; clear HO_5; have BK101 := n0_; have BK103 := n1_; have HB := n2_; have HO106 := n3_; clear n0_ n1_ n2_ n3_; clear ho hb hg hat))
        go_roundg k1
        case measure => have := HK1.out; omega
        case rel => exact ⟨(y104), (wrap64 (x11_1 + 1)), (by first | rfl | (simp; done) | (simp [*]; done)), H', ⟨by have := HK1.out; omega⟩, ⟨by apply Kd.R_to; exact HO106.out⟩, ⟨by refine bT ?_; exact BK101.out⟩, ⟨bA⟩⟩
       ·rw [if_neg c9] at H
        exact absurd H (by simp)
      ·rw [if_neg c8] at H
       have c8b0 : decide (a1 < ((rd_T44 l0_1 x11_1).f0)) = false := decide_eq_false c8
       clear c8
       have H' := Ax.mk H
       clear H
       have p102 : 0 ≤ (x11_1 : Int) := ofD
       have q102 : x11_1 < (l0_1.length : Int) := ofD
       obtain ⟨ad102, A102_1, c102_1, e102, hx102_0, hx102_1, hl102_1, hi102_1⟩ := at_T44 HR0_1.out x11_1 p102 q102
       cases e102
       replace hx102_0 := (HB.out.cell (World.block_lt_of_cell? w _ hx102_0)).trans hx102_0
       replace hx102_1 := (HB.out.cell (World.block_lt_of_cell? w _ hx102_1)).trans hx102_1
       have HR102_1 := Ax.mk hi102_1
       have HC102_1 := Ax.mk hl102_1
       clear hi102_1 hl102_1
       replace p102 := eq_true p102
       replace q102 := eq_true q102
       go_wp2_with (first | ((with_reducible refine gate_dst (N := 7) rfl ?_); refine box_event ?hg (N := 7) ?hd (cs := #[.int .u64 0, .slice none 0 0]) (t := 44) ?hr ?_; (case hd => rfl); (case hg => rfl); (case hr => first | (go_simp; done) | (go_simp; rfl)); intro gb103 hg w14 hbox hb; have n0_ := Ax.mk (Kd.R_below (by exact Kd.R_to HO_5.out) hb); have n1_ := Ax.mk (bB (bT BK101.out) hb); have n2_ := Ax.mk (bP bA hb); have n3_ := Ax.mk (hbox); have n4_ := Ax.mk ((ge_new hg : w.heap.size ≤ gb103)); have n5_ := n4_; have n6_ := Ax.mk ((ne_lt hg BK101.out : gb101 ≠ gb103)); have n7_ := Ax.mk ((ne_gt hg BK101.out : gb103 ≠ gb101)); clear HO_5; clear BK101; clear HB; have HO_5 := n0_; have BK101 := n1_; have HB := n2_; have BK103 := n3_; have GW103 := n4_; have GE103 := n5_; have NB101_103 := n6_; have NB103_101 := n7_; clear n0_ n1_ n2_ n3_ n4_ n5_ n6_ n7_; clear hb hbox hg; have hnb15 := NB103_101.out; have hnc15 := NB101_103.out; have hcz16_0 : w14.cell? ⟨gb103, 0, none⟩ = some (.int .u64 0) := (bC BK103.out 0).trans rfl; have hcz16_1 : w14.cell? ⟨gb103, 1, none⟩ = some (.slice none 0 0) := (bC BK103.out 1).trans rfl; have hfz16_0 := bF BK103.out 0; have hfz16_1 := bF BK103.out 1))
       go_roundg k1
       case measure => have := HK1.out; omega
       case rel => exact ⟨(x5_1), (wrap64 (x11_1 + 1)), (by first | rfl | (simp; done) | (simp [*]; done)), H', ⟨by have := HK1.out; omega⟩, ⟨by apply Kd.R_to; exact Kd.R_mono (Kd.R_far (p := ⟨gb103, 1, none⟩) (Kd.R_far (p := ⟨gb103, 0, none⟩) (Kd.R_types HO_5.out BK103.out (by decide)) (fun _ hk => hk.2) (.int .u64 ((rd_T44 l0_1 x11_1).f0))) (fun _ hk => hk.2) (.slice A102_1 ((rd_T44 l0_1 x11_1).f1).length c102_1)) (fun _ hk => trivial)⟩, ⟨by refine bT ?_; refine bR ?_ NB101_103.out _; refine bT ?_; refine bR ?_ NB101_103.out _; refine bT ?_; exact BK101.out⟩, ⟨bA⟩⟩
     ·rw [if_neg c7] at H
      exact absurd H (by simp)
    ·rw [if_neg c6] at H
     exact absurd H (by simp)
   ·rw [if_neg c5] at H
    have c5b0 : decide (x11_1 < (l0_1.length : Int)) = false := decide_eq_false c5
    clear c5
    obtain rfl := Option.some.inj H
    go_wp2
    go_ret
    exact ⟨_, by first | rfl | (simp [errW_none, errW_some] <;> rfl) | (simp [*, errW_none, errW_some] <;> rfl), by apply Kd.R_to; exact HO_5.out, bA⟩
def l13_shown.f (k : Nat)  : Option (Bool) := (journal_New.f k 5 (([(⟨3, 1, 0, 0, (⟨#[]⟩ : ByteArray)⟩ : S24)] : List (S24)))).bind fun bt170 => ((journal_Add.f k bt170.1 bt170.2.1 bt170.2.2.1 (([(⟨3, 2, 0, 0, (⟨#[]⟩ : ByteArray)⟩ : S24)] : List (S24)))).bind fun bt180 => ((journal_Add.f k bt180.1 bt180.2.1 bt180.2.2.1 (([(⟨3, 3, 0, 0, (⟨#[]⟩ : ByteArray)⟩ : S24)] : List (S24)))).bind fun bt190 => ((journal_After.f k bt190.1 bt190.2.1 bt190.2.2.1 6).bind fun t197 => (if bt170.2.2.2 = 0 then (if bt180.2.2.2 = 0 then (if bt190.2.2.2 = 0 then (if bt190.1 = 7 then (if (t197.length : Int) = 1 then (if 0 < (t197.length : Int) then (some (((rd_T24 t197 0).f1) == 3)) else (none)) else (none)) else (none)) else (none)) else (none)) else (none)))))
theorem l13_shown.mono : ∀ k, LeO (l13_shown.f k ) (l13_shown.f (k + 1) ) := by
 intro  k
 unfold l13_shown.f
 repeat' first
   | (with_reducible exact journal_Add.mono _ _ _ _ _)
   | (with_reducible exact journal_After.mono _ _ _ _ _)
   | (with_reducible exact journal_New.mono _ _ _)
   | (with_reducible exact LeO.refl _)
   | (with_reducible exact LeO.none _)
   | (with_reducible refine LeO.ite ?_ ?_)
   | (with_reducible refine LeO.bind ?_ (fun _ => ?_))
   | exact journal_Add.mono _ _ _ _ _
   | exact journal_After.mono _ _ _ _ _
   | exact journal_New.mono _ _ _
   | exact LeO.none _
   | refine LeO.ite ?_ ?_
   | refine LeO.bind ?_ (fun _ => ?_)
set_option maxHeartbeats 8000000 in
set_option maxRecDepth 100000 in
theorem l13_shown.calls (k : Nat)  (r : Bool) (w : World) (h : l13_shown.f k  = some r) (HT : Tabs w) :
  Calls Tryd.prog 31 #[] w fun e w' => e = .returned (.bool r) ∧ Below w.heap.size w w' := by
 have hu24 := Tryd.underlying24
 have hu66 := Tryd.underlying66
 have HB := Ax.mk (Below.refl w.heap.size w)
 have H : ((journal_New.f k 5 (([(⟨3, 1, 0, 0, (⟨#[]⟩ : ByteArray)⟩ : S24)] : List (S24)))).bind fun bt170 => ((journal_Add.f k bt170.1 bt170.2.1 bt170.2.2.1 (([(⟨3, 2, 0, 0, (⟨#[]⟩ : ByteArray)⟩ : S24)] : List (S24)))).bind fun bt180 => ((journal_Add.f k bt180.1 bt180.2.1 bt180.2.2.1 (([(⟨3, 3, 0, 0, (⟨#[]⟩ : ByteArray)⟩ : S24)] : List (S24)))).bind fun bt190 => ((journal_After.f k bt190.1 bt190.2.1 bt190.2.2.1 6).bind fun t197 => (if bt170.2.2.2 = 0 then (if bt180.2.2.2 = 0 then (if bt190.2.2.2 = 0 then (if bt190.1 = 7 then (if (t197.length : Int) = 1 then (if 0 < (t197.length : Int) then (some (((rd_T24 t197 0).f1) == 3)) else (none)) else (none)) else (none)) else (none)) else (none)) else (none)))))) = some r := h
 clear h
 obtain ⟨y167, hy167⟩ : ∃ y_ : List (S24), y_ = (([(⟨3, 1, 0, 0, (⟨#[]⟩ : ByteArray)⟩ : S24)] : List (S24))) := ⟨_, rfl⟩
 replace H : ((journal_New.f k 5 y167).bind fun bt170 => ((journal_Add.f k bt170.1 bt170.2.1 bt170.2.2.1 (([(⟨3, 2, 0, 0, (⟨#[]⟩ : ByteArray)⟩ : S24)] : List (S24)))).bind fun bt180 => ((journal_Add.f k bt180.1 bt180.2.1 bt180.2.2.1 (([(⟨3, 3, 0, 0, (⟨#[]⟩ : ByteArray)⟩ : S24)] : List (S24)))).bind fun bt190 => ((journal_After.f k bt190.1 bt190.2.1 bt190.2.2.1 6).bind fun t197 => (if bt170.2.2.2 = 0 then (if bt180.2.2.2 = 0 then (if bt190.2.2.2 = 0 then (if bt190.1 = 7 then (if (t197.length : Int) = 1 then (if 0 < (t197.length : Int) then (some (((rd_T24 t197 0).f1) == 3)) else (none)) else (none)) else (none)) else (none)) else (none)) else (none)))))) = some r := by first | (rw [hy167]; with_reducible exact H) | (have H2_ := (Option.bind_some _ _).symm.trans H; rw [hy167]; with_reducible exact H2_) | (have H2_ := (Option.bind_some _ _).symm.trans H; with_reducible exact H2_) | with_reducible exact H | (rw [hy167]; exact H) | exact H
 have Ny167 := Ax.mk hy167
 clear hy167
 replace H := Option.bind_eq_some_iff.mp H
 obtain ⟨⟨t170, t171, t174, t175⟩, A10, H⟩ := H
 replace H : ((journal_Add.f k t170 t171 t174 (([(⟨3, 2, 0, 0, (⟨#[]⟩ : ByteArray)⟩ : S24)] : List (S24)))).bind fun bt180 => ((journal_Add.f k bt180.1 bt180.2.1 bt180.2.2.1 (([(⟨3, 3, 0, 0, (⟨#[]⟩ : ByteArray)⟩ : S24)] : List (S24)))).bind fun bt190 => ((journal_After.f k bt190.1 bt190.2.1 bt190.2.2.1 6).bind fun t197 => (if t175 = 0 then (if bt180.2.2.2 = 0 then (if bt190.2.2.2 = 0 then (if bt190.1 = 7 then (if (t197.length : Int) = 1 then (if 0 < (t197.length : Int) then (some (((rd_T24 t197 0).f1) == 3)) else (none)) else (none)) else (none)) else (none)) else (none)) else (none))))) = some r := H
 have A1 := Ax.mk A10
 clear A10
 obtain ⟨y177, hy177⟩ : ∃ y_ : List (S24), y_ = (([(⟨3, 2, 0, 0, (⟨#[]⟩ : ByteArray)⟩ : S24)] : List (S24))) := ⟨_, rfl⟩
 replace H : ((journal_Add.f k t170 t171 t174 y177).bind fun bt180 => ((journal_Add.f k bt180.1 bt180.2.1 bt180.2.2.1 (([(⟨3, 3, 0, 0, (⟨#[]⟩ : ByteArray)⟩ : S24)] : List (S24)))).bind fun bt190 => ((journal_After.f k bt190.1 bt190.2.1 bt190.2.2.1 6).bind fun t197 => (if t175 = 0 then (if bt180.2.2.2 = 0 then (if bt190.2.2.2 = 0 then (if bt190.1 = 7 then (if (t197.length : Int) = 1 then (if 0 < (t197.length : Int) then (some (((rd_T24 t197 0).f1) == 3)) else (none)) else (none)) else (none)) else (none)) else (none)) else (none))))) = some r := by first | (rw [hy177]; with_reducible exact H) | (have H2_ := (Option.bind_some _ _).symm.trans H; rw [hy177]; with_reducible exact H2_) | (have H2_ := (Option.bind_some _ _).symm.trans H; with_reducible exact H2_) | with_reducible exact H | (rw [hy177]; exact H) | exact H
 have Ny177 := Ax.mk hy177
 clear hy177
 replace H := Option.bind_eq_some_iff.mp H
 obtain ⟨⟨t180, t181, t184, t185⟩, A20, H⟩ := H
 replace H : ((journal_Add.f k t180 t181 t184 (([(⟨3, 3, 0, 0, (⟨#[]⟩ : ByteArray)⟩ : S24)] : List (S24)))).bind fun bt190 => ((journal_After.f k bt190.1 bt190.2.1 bt190.2.2.1 6).bind fun t197 => (if t175 = 0 then (if t185 = 0 then (if bt190.2.2.2 = 0 then (if bt190.1 = 7 then (if (t197.length : Int) = 1 then (if 0 < (t197.length : Int) then (some (((rd_T24 t197 0).f1) == 3)) else (none)) else (none)) else (none)) else (none)) else (none)) else (none)))) = some r := H
 have A2 := Ax.mk A20
 clear A20
 obtain ⟨y187, hy187⟩ : ∃ y_ : List (S24), y_ = (([(⟨3, 3, 0, 0, (⟨#[]⟩ : ByteArray)⟩ : S24)] : List (S24))) := ⟨_, rfl⟩
 replace H : ((journal_Add.f k t180 t181 t184 y187).bind fun bt190 => ((journal_After.f k bt190.1 bt190.2.1 bt190.2.2.1 6).bind fun t197 => (if t175 = 0 then (if t185 = 0 then (if bt190.2.2.2 = 0 then (if bt190.1 = 7 then (if (t197.length : Int) = 1 then (if 0 < (t197.length : Int) then (some (((rd_T24 t197 0).f1) == 3)) else (none)) else (none)) else (none)) else (none)) else (none)) else (none)))) = some r := by first | (rw [hy187]; with_reducible exact H) | (have H2_ := (Option.bind_some _ _).symm.trans H; rw [hy187]; with_reducible exact H2_) | (have H2_ := (Option.bind_some _ _).symm.trans H; with_reducible exact H2_) | with_reducible exact H | (rw [hy187]; exact H) | exact H
 have Ny187 := Ax.mk hy187
 clear hy187
 replace H := Option.bind_eq_some_iff.mp H
 obtain ⟨⟨t190, t191, t194, t195⟩, A30, H⟩ := H
 replace H : ((journal_After.f k t190 t191 t194 6).bind fun t197 => (if t175 = 0 then (if t185 = 0 then (if t195 = 0 then (if t190 = 7 then (if (t197.length : Int) = 1 then (if 0 < (t197.length : Int) then (some (((rd_T24 t197 0).f1) == 3)) else (none)) else (none)) else (none)) else (none)) else (none)) else (none))) = some r := H
 have A3 := Ax.mk A30
 clear A30
 replace H := Option.bind_eq_some_iff.mp H
 obtain ⟨t197, A40, H⟩ := H
 replace H : (if t175 = 0 then (if t185 = 0 then (if t195 = 0 then (if t190 = 7 then (if (t197.length : Int) = 1 then (if 0 < (t197.length : Int) then (some (((rd_T24 t197 0).f1) == 3)) else (none)) else (none)) else (none)) else (none)) else (none)) else (none)) = some r := H
 have A4 := Ax.mk A40
 clear A40
 by_cases c5 : t175 = 0
 ·rw [if_pos c5] at H
  have c5b0 : (t175 == 0) = true := beq_iff_eq.mpr c5
  have c5b1 : (t175 != 0) = false := bne_eq_false_iff_eq.mpr c5
  clear c5
  by_cases c6 : t185 = 0
  ·rw [if_pos c6] at H
   have c6b0 : (t185 == 0) = true := beq_iff_eq.mpr c6
   have c6b1 : (t185 != 0) = false := bne_eq_false_iff_eq.mpr c6
   clear c6
   by_cases c7 : t195 = 0
   ·rw [if_pos c7] at H
    have c7b0 : (t195 == 0) = true := beq_iff_eq.mpr c7
    have c7b1 : (t195 != 0) = false := bne_eq_false_iff_eq.mpr c7
    clear c7
    by_cases c8 : t190 = 7
    ·rw [if_pos c8] at H
     have c8b0 : (t190 == 7) = true := beq_iff_eq.mpr c8
     have c8b1 : (t190 != 7) = false := bne_eq_false_iff_eq.mpr c8
     clear c8
     by_cases c9 : (t197.length : Int) = 1
     ·rw [if_pos c9] at H
      have c9b0 : ((t197.length : Int) == 1) = true := beq_iff_eq.mpr c9
      have c9b1 : ((t197.length : Int) != 1) = false := bne_eq_false_iff_eq.mpr c9
      clear c9
      by_cases c10 : 0 < (t197.length : Int)
      ·rw [if_pos c10] at H
       have c10b0 : decide (0 < (t197.length : Int)) = true := decide_eq_true c10
       have c10b1 : decide (0 < t197.length) = true := decide_eq_true (by omega)
       clear c10
       obtain rfl := Option.some.inj H
       go_enter Tryd.func31, Tryd.ntmps31
       go_wp2_with (first | ((with_reducible refine gate_dst (N := 10) rfl ?_); (try (refine gate_guard (by rfl) ?_; dsimp only)); refine Kd.R_lit k24 _ 24 ?hg (N := 10) ?hd (xs := ([(⟨3, 1, 0, 0, (⟨#[]⟩ : ByteArray)⟩ : S24)] : List (S24))) (inner := [.int .i64 3, .int .i64 1, .int .i64 0, .int .u64 0, .string (⟨#[]⟩ : ByteArray)]) (ok := fun _ => True) (okp := fun _ => True) ?hr ?hp (fun _ hk => hk) trivial (Below.refl _ _) (Nat.le_refl _) (by simp) ?_; (case hd => rfl); (case hg => rfl); (case hr => first | (go_simp; done) | (go_simp; rfl)); (case hp => exact (Reps.c5 (show Kd.M k24 _ _ _ (⟨3, 1, 0, 0, (⟨#[]⟩ : ByteArray)⟩ : S24) [.int .i64 3, .int .i64 1, .int .i64 0, .int .u64 0, .string (⟨#[]⟩ : ByteArray)] from (k24_mkM _ _ _ (⟨3, 1, 0, 0, (⟨#[]⟩ : ByteArray)⟩ : S24) )) (Reps.none _ _))); intro v168 w11 ho12 hb hg_ hnew_; clear hg_ hnew_; (first | rw [← Ny167.out] at ho12 | (simp only [Int.reduceToNat] at ho12; rw [← Ny167.out] at ho12)); have n0_ := Ax.mk (Kd.R_lower ho12 (bS bA)); have n1_ := Ax.mk (bP bA hb); clear HB; have HO169 := n0_; have HB := n1_; clear n0_ n1_; clear hb ho12; obtain ⟨Ao13, co13, eo13⟩ := Kd.R_slice HO169.out; subst eo13) | ((with_reducible refine gate_callee (f := 38) rfl ?_); refine goesL_ (some 11) rfl rfl Tryd.func38 (by kernel_rfl) rfl #[.int .u64 5, .slice Ao13 y167.length co13] rfl (by (try simp only [List.map_toArray, List.map_cons, List.map_nil]); first | done | rfl | (simp only [List.length_drop, List.length_take]; rfl) | (rw [wrap_sum2 (by assumption)]; rfl)) ?_; (with_reducible refine (journal_New.calls k 5 _ _ y167 t170 t171 t174 t175 _ ?side1 ?side2 A1.out (HT.below bA)).mono ?_); (case side1 => repeat (first | exact (Kd.R_reads' HO169.out).2.2 | (with_reducible refine Kd.C_alloc ?_ _) | (with_reducible refine Kd.C_drewN ?_ _) | (with_reducible refine Kd.C_drew ?_))); (case side2 => exact (Kd.R_reads' HO169.out).2.1); rintro e w14 ⟨v172, rfl, ho0, hb⟩; refine ⟨_, rfl, ?_⟩; have n0_ := Ax.mk (Kd.R_below (by exact Kd.R_to HO169.out) hb); have n1_ := Ax.mk (Kd.N_lower (Kd.N_mono (ok' := fun k_ => some k_ ≠ (.slice Ao13 y167.length co13 : Value).ownBlock) ho0 (fun k_ hk_ => (Kd.fresh' (Kd.R_lt (by exact Kd.R_to HO169.out)) k_ hk_))) (bS bA)); have n2_ := Ax.mk (bP bA hb); clear HO169; clear HB; have HO169 := n0_; have HO173 := n1_; have HB := n2_; clear n0_ n1_ n2_; (try clear hb); (try clear hb2); (try clear hk); (try clear hi); (try clear ho0)) | ((with_reducible refine gate_dst (N := 1) rfl ?_); (try (refine gate_guard (by rfl) ?_; dsimp only)); refine box_event ?hg (N := 1) ?hd (cs := #[.int .u64 0, .slice none 0 0, .string (⟨#[]⟩ : ByteArray)]) (t := 66) ?hr ?_; (case hd => rfl); (case hg => rfl); (case hr => first | (go_simp; done) | (go_simp; rfl)); intro gb176 hg w15 hbox hb; have n0_ := Ax.mk (Kd.R_below (by exact Kd.R_to HO169.out) hb); have n1_ := Ax.mk (Kd.N_below (Kd.N_elderB (by exact Kd.N_to HO173.out) gb176 (Nat.le_of_eq hg.symm)) hb); have n2_ := Ax.mk (bP bA hb); have n3_ := Ax.mk (hbox); have n4_ := Ax.mk ((ge_new hg : w.heap.size ≤ gb176)); have n5_ := n4_; clear HO169; clear HO173; clear HB; have HO169 := n0_; have HO173 := n1_; have HB := n2_; have BK176 := n3_; have GW176 := n4_; have GE176 := n5_; clear n0_ n1_ n2_ n3_ n4_ n5_; clear hb hbox hg; have hcz16_0 : w15.cell? ⟨gb176, 0, none⟩ = some (.int .u64 0) := (bC BK176.out 0).trans rfl; have hcz16_1 : w15.cell? ⟨gb176, 1, none⟩ = some (.slice none 0 0) := (bC BK176.out 1).trans rfl; have hcz16_2 : w15.cell? ⟨gb176, 2, none⟩ = some (.string (⟨#[]⟩ : ByteArray)) := (bC BK176.out 2).trans rfl; have hfz16_0 := bF BK176.out 0; have hfz16_1 := bF BK176.out 1; have hfz16_2 := bF BK176.out 2; obtain ⟨Ao17, co17, eo17⟩ := Kd.N_slice HO173.out; subst eo17) | ((with_reducible refine gate_dst (N := 17) rfl ?_); (try (refine gate_guard (by rfl) ?_; dsimp only)); refine Kd.R_lit k24 _ 24 ?hg (N := 17) ?hd (xs := ([(⟨3, 2, 0, 0, (⟨#[]⟩ : ByteArray)⟩ : S24)] : List (S24))) (inner := [.int .i64 3, .int .i64 2, .int .i64 0, .int .u64 0, .string (⟨#[]⟩ : ByteArray)]) (ok := fun _ => True) (okp := fun _ => True) ?hr ?hp (fun _ hk => hk) trivial (Below.refl _ _) (Nat.le_refl _) (by simp) ?_; (case hd => rfl); (case hg => rfl); (case hr => first | (go_simp; done) | (go_simp; rfl)); (case hp => exact (Reps.c5 (show Kd.M k24 _ _ _ (⟨3, 2, 0, 0, (⟨#[]⟩ : ByteArray)⟩ : S24) [.int .i64 3, .int .i64 2, .int .i64 0, .int .u64 0, .string (⟨#[]⟩ : ByteArray)] from (k24_mkM _ _ _ (⟨3, 2, 0, 0, (⟨#[]⟩ : ByteArray)⟩ : S24) )) (Reps.none _ _))); intro v178 w18 ho19 hb hg_ hnew_; clear hg_ hnew_; (first | rw [← Ny177.out] at ho19 | (simp only [Int.reduceToNat] at ho19; rw [← Ny177.out] at ho19)); have n0_ := Ax.mk (Kd.R_elder' (by apply Kd.R_to; exact (Kd.R_mono (Kd.R_far (p := ⟨gb176, 2, none⟩) (Kd.R_far (p := ⟨gb176, 1, none⟩) (Kd.R_far (p := ⟨gb176, 0, none⟩) (Kd.R_types HO169.out BK176.out (by decide)) (fun _ hk => hk.2) (.int .u64 t170)) (fun _ hk => hk.2) (.slice Ao17 t171.length co17)) (fun _ hk => hk.2) (.string t174)) (fun _ h_ => h_.1))) (Kd.R_base ho19) hb); have n1_ := Ax.mk (Kd.N_elder' (by apply Kd.N_to; exact (Kd.N_mono (Kd.N_far (p := ⟨gb176, 2, none⟩) (Kd.N_far (p := ⟨gb176, 1, none⟩) (Kd.N_far (p := ⟨gb176, 0, none⟩) (Kd.N_mono HO173.out (fun k_ hk => (⟨hk, hk.2⟩ : _ ∧ k_ ≠ gb176))) (fun _ hk => hk.2) (.int .u64 t170)) (fun _ hk => hk.2) (.slice Ao17 t171.length co17)) (fun _ hk => hk.2) (.string t174)) (fun _ h_ => h_.1))) (Kd.R_base ho19) hb); have n2_ := Ax.mk (Kd.R_lower (Kd.R_new' ho19 (Kd.R_lt (by apply Kd.R_to; exact (Kd.R_mono (Kd.R_far (p := ⟨gb176, 2, none⟩) (Kd.R_far (p := ⟨gb176, 1, none⟩) (Kd.R_far (p := ⟨gb176, 0, none⟩) (Kd.R_types HO169.out BK176.out (by decide)) (fun _ hk => hk.2) (.int .u64 t170)) (fun _ hk => hk.2) (.slice Ao17 t171.length co17)) (fun _ hk => hk.2) (.string t174)) (fun _ h_ => h_.1))))) (bS bA)); have n3_ := Ax.mk (bB (g := gb176) (o := .cells #[.int .u64 t170, .slice Ao17 t171.length co17, .string t174] 66 (0, 0)) (by refine bT ?_; refine bU (cs := #[.int .u64 t170, .slice Ao17 t171.length co17, .string (⟨#[]⟩ : ByteArray)]) ?_ 2 _ rfl; refine bT ?_; refine bU (cs := #[.int .u64 t170, .slice none 0 0, .string (⟨#[]⟩ : ByteArray)]) ?_ 1 _ rfl; refine bT ?_; refine bU (cs := #[.int .u64 0, .slice none 0 0, .string (⟨#[]⟩ : ByteArray)]) ?_ 0 _ rfl; exact bT BK176.out) hb); have n4_ := Ax.mk (bP bA hb); clear HO169; clear HO173; clear BK176; clear HB; have HO169 := n0_; have HO173 := n1_; have HO179 := n2_; have BK176 := n3_; have HB := n4_; clear n0_ n1_ n2_ n3_ n4_; clear hb ho19; obtain ⟨Ao20, co20, eo20⟩ := Kd.R_slice HO179.out; subst eo20) | ((with_reducible refine gate_callee (f := 39) rfl ?_); refine goesL_ (some 18) rfl rfl Tryd.func39 (by kernel_rfl) rfl #[.agg #[.int .u64 t170, .slice Ao17 t171.length co17, .string t174], .slice Ao20 y177.length co20] rfl (by (try simp only [List.map_toArray, List.map_cons, List.map_nil]); first | done | rfl | (simp only [List.length_drop, List.length_take]; rfl) | (rw [wrap_sum2 (by assumption)]; rfl)) ?_; (with_reducible refine (journal_Add.calls k t170 (fun k_ => ((some k_ ≠ (.slice Ao13 y167.length co13 : Value).ownBlock ∧ k_ ≠ gb176) ∧ some k_ ≠ (.slice Ao20 y177.length co20 : Value).ownBlock)) _ _ t171 t174 _ _ y177 t180 t181 t184 t185 _ ?side1 ?side2 ?side3 A2.out (HT.below bA)).mono ?_); (case side1 => exact Kd.N_V (HO173.out)); (case side2 => repeat (first | exact (Kd.R_reads' HO179.out).2.2 | (with_reducible refine Kd.C_alloc ?_ _) | (with_reducible refine Kd.C_drewN ?_ _) | (with_reducible refine Kd.C_drew ?_))); (case side3 => exact (Kd.R_reads' HO179.out).2.1); rintro e w21 ⟨v182, rfl, ho0, hb⟩; refine ⟨_, rfl, ?_⟩; have n0_ := Ax.mk (Kd.R_below (by exact Kd.R_to HO169.out) hb); have n1_ := Ax.mk (Kd.N_elder' (by exact Kd.N_to HO173.out) (Kd.N_base ho0) hb); have n2_ := Ax.mk (Kd.R_below (by exact Kd.R_to HO179.out) hb); have n3_ := Ax.mk (Kd.N_lower (Kd.N_mono (ok' := fun k_ => some k_ ≠ (.slice Ao13 y167.length co13 : Value).ownBlock ∧ some k_ ≠ (.slice Ao20 y177.length co20 : Value).ownBlock ∧ k_ ≠ gb176) ho0 (fun k_ hk_ => ⟨Or.elim hk_ (fun hs_ => hs_.1.1) (fun hn_ => (Kd.fresh' (Kd.R_lt (by exact Kd.R_to HO169.out)) k_ hn_)), Or.elim hk_ (fun hs_ => hs_.2) (fun hn_ => (Kd.fresh' (Kd.R_lt (by exact Kd.R_to HO179.out)) k_ hn_)), Or.elim hk_ (fun hs_ => hs_.1.2) (fun hn_ => (Kd.freshB (g := gb176) (o := .cells #[.int .u64 t170, .slice Ao17 t171.length co17, .string t174] 66 (0, 0)) (bT BK176.out) k_ hn_))⟩)) (bS bA)); have n4_ := Ax.mk (bB (bT BK176.out) hb); have n5_ := Ax.mk (bP bA hb); clear HO169; clear HO173; clear HO179; clear BK176; clear HB; have HO169 := n0_; have HO173 := n1_; have HO179 := n2_; have HO183 := n3_; have BK176 := n4_; have HB := n5_; clear n0_ n1_ n2_ n3_ n4_ n5_; (try clear hb); (try clear hb2); (try clear hk); (try clear hi); (try clear ho0)) | ((with_reducible refine gate_dst (N := 3) rfl ?_); (try (refine gate_guard (by rfl) ?_; dsimp only)); refine box_event ?hg (N := 3) ?hd (cs := #[.int .u64 0, .slice none 0 0, .string (⟨#[]⟩ : ByteArray)]) (t := 66) ?hr ?_; (case hd => rfl); (case hg => rfl); (case hr => first | (go_simp; done) | (go_simp; rfl)); intro gb186 hg w22 hbox hb; have n0_ := Ax.mk (Kd.R_below (by exact Kd.R_to HO169.out) hb); have n1_ := Ax.mk (Kd.N_below (Kd.N_elderB (by exact Kd.N_to HO173.out) gb186 (Nat.le_of_eq hg.symm)) hb); have n2_ := Ax.mk (Kd.R_below (by exact Kd.R_to HO179.out) hb); have n3_ := Ax.mk (Kd.N_below (Kd.N_elderB (by exact Kd.N_to HO183.out) gb186 (Nat.le_of_eq hg.symm)) hb); have n4_ := Ax.mk (bB (bT BK176.out) hb); have n5_ := Ax.mk (bP bA hb); have n6_ := Ax.mk (hbox); have n7_ := Ax.mk ((ge_new hg : w.heap.size ≤ gb186)); have n8_ := n7_; have n9_ := Ax.mk ((ne_lt hg BK176.out : gb176 ≠ gb186)); have n10_ := Ax.mk ((ne_gt hg BK176.out : gb186 ≠ gb176)); clear HO169; clear HO173; clear HO179; clear HO183; clear BK176; clear HB; have HO169 := n0_; have HO173 := n1_; have HO179 := n2_; have HO183 := n3_; have BK176 := n4_; have HB := n5_; have BK186 := n6_; have GW186 := n7_; have GE186 := n8_; have NB176_186 := n9_; have NB186_176 := n10_; clear n0_ n1_ n2_ n3_ n4_ n5_ n6_ n7_ n8_ n9_ n10_; clear hb hbox hg; have hnb23 := NB186_176.out; have hnc23 := NB176_186.out; have hcz24_0 : w22.cell? ⟨gb186, 0, none⟩ = some (.int .u64 0) := (bC BK186.out 0).trans rfl; have hcz24_1 : w22.cell? ⟨gb186, 1, none⟩ = some (.slice none 0 0) := (bC BK186.out 1).trans rfl; have hcz24_2 : w22.cell? ⟨gb186, 2, none⟩ = some (.string (⟨#[]⟩ : ByteArray)) := (bC BK186.out 2).trans rfl; have hfz24_0 := bF BK186.out 0; have hfz24_1 := bF BK186.out 1; have hfz24_2 := bF BK186.out 2; obtain ⟨Ao25, co25, eo25⟩ := Kd.N_slice HO183.out; subst eo25) | ((with_reducible refine gate_dst (N := 24) rfl ?_); (try (refine gate_guard (by rfl) ?_; dsimp only)); refine Kd.R_lit k24 _ 24 ?hg (N := 24) ?hd (xs := ([(⟨3, 3, 0, 0, (⟨#[]⟩ : ByteArray)⟩ : S24)] : List (S24))) (inner := [.int .i64 3, .int .i64 3, .int .i64 0, .int .u64 0, .string (⟨#[]⟩ : ByteArray)]) (ok := fun _ => True) (okp := fun _ => True) ?hr ?hp (fun _ hk => hk) trivial (Below.refl _ _) (Nat.le_refl _) (by simp) ?_; (case hd => rfl); (case hg => rfl); (case hr => first | (go_simp; done) | (go_simp; rfl)); (case hp => exact (Reps.c5 (show Kd.M k24 _ _ _ (⟨3, 3, 0, 0, (⟨#[]⟩ : ByteArray)⟩ : S24) [.int .i64 3, .int .i64 3, .int .i64 0, .int .u64 0, .string (⟨#[]⟩ : ByteArray)] from (k24_mkM _ _ _ (⟨3, 3, 0, 0, (⟨#[]⟩ : ByteArray)⟩ : S24) )) (Reps.none _ _))); intro v188 w26 ho27 hb hg_ hnew_; clear hg_ hnew_; (first | rw [← Ny187.out] at ho27 | (simp only [Int.reduceToNat] at ho27; rw [← Ny187.out] at ho27)); have n0_ := Ax.mk (Kd.R_elder' (by apply Kd.R_to; exact (Kd.R_mono (Kd.R_far (p := ⟨gb186, 2, none⟩) (Kd.R_far (p := ⟨gb186, 1, none⟩) (Kd.R_far (p := ⟨gb186, 0, none⟩) (Kd.R_types HO169.out BK186.out (by decide)) (fun _ hk => hk.2) (.int .u64 t180)) (fun _ hk => hk.2) (.slice Ao25 t181.length co25)) (fun _ hk => hk.2) (.string t184)) (fun _ h_ => h_.1))) (Kd.R_base ho27) hb); have n1_ := Ax.mk (Kd.N_elder' (by apply Kd.N_to; exact (Kd.N_mono (Kd.N_far (p := ⟨gb186, 2, none⟩) (Kd.N_far (p := ⟨gb186, 1, none⟩) (Kd.N_far (p := ⟨gb186, 0, none⟩) (Kd.N_mono HO173.out (fun k_ hk => (⟨hk, hk.2⟩ : _ ∧ k_ ≠ gb186))) (fun _ hk => hk.2) (.int .u64 t180)) (fun _ hk => hk.2) (.slice Ao25 t181.length co25)) (fun _ hk => hk.2) (.string t184)) (fun _ h_ => h_.1))) (Kd.R_base ho27) hb); have n2_ := Ax.mk (Kd.R_elder' (by apply Kd.R_to; exact (Kd.R_mono (Kd.R_far (p := ⟨gb186, 2, none⟩) (Kd.R_far (p := ⟨gb186, 1, none⟩) (Kd.R_far (p := ⟨gb186, 0, none⟩) (Kd.R_types HO179.out BK186.out (by decide)) (fun _ hk => hk.2) (.int .u64 t180)) (fun _ hk => hk.2) (.slice Ao25 t181.length co25)) (fun _ hk => hk.2) (.string t184)) (fun _ h_ => h_.1))) (Kd.R_base ho27) hb); have n3_ := Ax.mk (Kd.N_elder' (by apply Kd.N_to; exact (Kd.N_mono (Kd.N_far (p := ⟨gb186, 2, none⟩) (Kd.N_far (p := ⟨gb186, 1, none⟩) (Kd.N_far (p := ⟨gb186, 0, none⟩) (Kd.N_mono HO183.out (fun k_ hk => (⟨hk, hk.2⟩ : _ ∧ k_ ≠ gb186))) (fun _ hk => hk.2) (.int .u64 t180)) (fun _ hk => hk.2) (.slice Ao25 t181.length co25)) (fun _ hk => hk.2) (.string t184)) (fun _ h_ => h_.1))) (Kd.R_base ho27) hb); have n4_ := Ax.mk (Kd.R_lower (Kd.R_new' (Kd.R_new' ho27 (Kd.R_lt (by apply Kd.R_to; exact (Kd.R_mono (Kd.R_far (p := ⟨gb186, 2, none⟩) (Kd.R_far (p := ⟨gb186, 1, none⟩) (Kd.R_far (p := ⟨gb186, 0, none⟩) (Kd.R_types HO169.out BK186.out (by decide)) (fun _ hk => hk.2) (.int .u64 t180)) (fun _ hk => hk.2) (.slice Ao25 t181.length co25)) (fun _ hk => hk.2) (.string t184)) (fun _ h_ => h_.1))))) (Kd.R_lt (by apply Kd.R_to; exact (Kd.R_mono (Kd.R_far (p := ⟨gb186, 2, none⟩) (Kd.R_far (p := ⟨gb186, 1, none⟩) (Kd.R_far (p := ⟨gb186, 0, none⟩) (Kd.R_types HO179.out BK186.out (by decide)) (fun _ hk => hk.2) (.int .u64 t180)) (fun _ hk => hk.2) (.slice Ao25 t181.length co25)) (fun _ hk => hk.2) (.string t184)) (fun _ h_ => h_.1))))) (bS bA)); have n5_ := Ax.mk (bB (g := gb176) (o := .cells #[.int .u64 t170, .slice Ao17 t171.length co17, .string t174] 66 (0, 0)) (by refine bT ?_; refine bR ?_ NB176_186.out _; refine bT ?_; refine bR ?_ NB176_186.out _; refine bT ?_; refine bR ?_ NB176_186.out _; exact bT BK176.out) hb); have n6_ := Ax.mk (bB (g := gb186) (o := .cells #[.int .u64 t180, .slice Ao25 t181.length co25, .string t184] 66 (0, 0)) (by refine bT ?_; refine bU (cs := #[.int .u64 t180, .slice Ao25 t181.length co25, .string (⟨#[]⟩ : ByteArray)]) ?_ 2 _ rfl; refine bT ?_; refine bU (cs := #[.int .u64 t180, .slice none 0 0, .string (⟨#[]⟩ : ByteArray)]) ?_ 1 _ rfl; refine bT ?_; refine bU (cs := #[.int .u64 0, .slice none 0 0, .string (⟨#[]⟩ : ByteArray)]) ?_ 0 _ rfl; exact bT BK186.out) hb); have n7_ := Ax.mk (bP bA hb); clear HO169; clear HO173; clear HO179; clear HO183; clear BK176; clear BK186; clear HB; have HO169 := n0_; have HO173 := n1_; have HO179 := n2_; have HO183 := n3_; have HO189 := n4_; have BK176 := n5_; have BK186 := n6_; have HB := n7_; clear n0_ n1_ n2_ n3_ n4_ n5_ n6_ n7_; clear hb ho27; obtain ⟨Ao28, co28, eo28⟩ := Kd.R_slice HO189.out; subst eo28) | ((with_reducible refine gate_callee (f := 39) rfl ?_); refine goesL_ (some 25) rfl rfl Tryd.func39 (by kernel_rfl) rfl #[.agg #[.int .u64 t180, .slice Ao25 t181.length co25, .string t184], .slice Ao28 y187.length co28] rfl (by (try simp only [List.map_toArray, List.map_cons, List.map_nil]); first | done | rfl | (simp only [List.length_drop, List.length_take]; rfl) | (rw [wrap_sum2 (by assumption)]; rfl)) ?_; (with_reducible refine (journal_Add.calls k t180 (fun k_ => (((some k_ ≠ (.slice Ao13 y167.length co13 : Value).ownBlock ∧ (some k_ ≠ (.slice Ao20 y177.length co20 : Value).ownBlock ∧ k_ ≠ gb176)) ∧ k_ ≠ gb186) ∧ some k_ ≠ (.slice Ao28 y187.length co28 : Value).ownBlock)) _ _ t181 t184 _ _ y187 t190 t191 t194 t195 _ ?side1 ?side2 ?side3 A3.out (HT.below bA)).mono ?_); (case side1 => exact Kd.N_V (HO183.out)); (case side2 => repeat (first | exact (Kd.R_reads' HO189.out).2.2 | (with_reducible refine Kd.C_alloc ?_ _) | (with_reducible refine Kd.C_drewN ?_ _) | (with_reducible refine Kd.C_drew ?_))); (case side3 => exact (Kd.R_reads' HO189.out).2.1); rintro e w29 ⟨v192, rfl, ho0, hb⟩; refine ⟨_, rfl, ?_⟩; have n0_ := Ax.mk (Kd.R_below (by exact Kd.R_to HO169.out) hb); have n1_ := Ax.mk (Kd.N_elder' (by exact Kd.N_to HO173.out) (Kd.N_base ho0) hb); have n2_ := Ax.mk (Kd.R_below (by exact Kd.R_to HO179.out) hb); have n3_ := Ax.mk (Kd.N_elder' (by exact Kd.N_to HO183.out) (Kd.N_base ho0) hb); have n4_ := Ax.mk (Kd.R_below (by exact Kd.R_to HO189.out) hb); have n5_ := Ax.mk (Kd.N_lower (Kd.N_mono (ok' := fun k_ => some k_ ≠ (.slice Ao13 y167.length co13 : Value).ownBlock ∧ some k_ ≠ (.slice Ao20 y177.length co20 : Value).ownBlock ∧ some k_ ≠ (.slice Ao28 y187.length co28 : Value).ownBlock ∧ k_ ≠ gb176 ∧ k_ ≠ gb186) ho0 (fun k_ hk_ => ⟨Or.elim hk_ (fun hs_ => hs_.1.1.1) (fun hn_ => (Kd.fresh' (Kd.R_lt (by exact Kd.R_to HO169.out)) k_ hn_)), Or.elim hk_ (fun hs_ => hs_.1.1.2.1) (fun hn_ => (Kd.fresh' (Kd.R_lt (by exact Kd.R_to HO179.out)) k_ hn_)), Or.elim hk_ (fun hs_ => hs_.2) (fun hn_ => (Kd.fresh' (Kd.R_lt (by exact Kd.R_to HO189.out)) k_ hn_)), Or.elim hk_ (fun hs_ => hs_.1.1.2.2) (fun hn_ => (Kd.freshB (g := gb176) (o := .cells #[.int .u64 t170, .slice Ao17 t171.length co17, .string t174] 66 (0, 0)) (bT BK176.out) k_ hn_)), Or.elim hk_ (fun hs_ => hs_.1.2) (fun hn_ => (Kd.freshB (g := gb186) (o := .cells #[.int .u64 t180, .slice Ao25 t181.length co25, .string t184] 66 (0, 0)) (bT BK186.out) k_ hn_))⟩)) (bS bA)); have n6_ := Ax.mk (bB (bT BK176.out) hb); have n7_ := Ax.mk (bB (bT BK186.out) hb); have n8_ := Ax.mk (bP bA hb); clear HO169; clear HO173; clear HO179; clear HO183; clear HO189; clear BK176; clear BK186; clear HB; have HO169 := n0_; have HO173 := n1_; have HO179 := n2_; have HO183 := n3_; have HO189 := n4_; have HO193 := n5_; have BK176 := n6_; have BK186 := n7_; have HB := n8_; clear n0_ n1_ n2_ n3_ n4_ n5_ n6_ n7_ n8_; (try clear hb); (try clear hb2); (try clear hk); (try clear hi); (try clear ho0)) | ((with_reducible refine gate_dst (N := 5) rfl ?_); (try (refine gate_guard (by rfl) ?_; dsimp only)); refine box_event ?hg (N := 5) ?hd (cs := #[.int .u64 0, .slice none 0 0, .string (⟨#[]⟩ : ByteArray)]) (t := 66) ?hr ?_; (case hd => rfl); (case hg => rfl); (case hr => first | (go_simp; done) | (go_simp; rfl)); intro gb196 hg w30 hbox hb; have n0_ := Ax.mk (Kd.R_below (by exact Kd.R_to HO169.out) hb); have n1_ := Ax.mk (Kd.N_below (Kd.N_elderB (by exact Kd.N_to HO173.out) gb196 (Nat.le_of_eq hg.symm)) hb); have n2_ := Ax.mk (Kd.R_below (by exact Kd.R_to HO179.out) hb); have n3_ := Ax.mk (Kd.N_below (Kd.N_elderB (by exact Kd.N_to HO183.out) gb196 (Nat.le_of_eq hg.symm)) hb); have n4_ := Ax.mk (Kd.R_below (by exact Kd.R_to HO189.out) hb); have n5_ := Ax.mk (Kd.N_below (Kd.N_elderB (by exact Kd.N_to HO193.out) gb196 (Nat.le_of_eq hg.symm)) hb); have n6_ := Ax.mk (bB (bT BK176.out) hb); have n7_ := Ax.mk (bB (bT BK186.out) hb); have n8_ := Ax.mk (bP bA hb); have n9_ := Ax.mk (hbox); have n10_ := Ax.mk ((ge_new hg : w.heap.size ≤ gb196)); have n11_ := n10_; have n12_ := Ax.mk ((ne_lt hg BK176.out : gb176 ≠ gb196)); have n13_ := Ax.mk ((ne_gt hg BK176.out : gb196 ≠ gb176)); have n14_ := Ax.mk ((ne_lt hg BK186.out : gb186 ≠ gb196)); have n15_ := Ax.mk ((ne_gt hg BK186.out : gb196 ≠ gb186)); clear HO169; clear HO173; clear HO179; clear HO183; clear HO189; clear HO193; clear BK176; clear BK186; clear HB; have HO169 := n0_; have HO173 := n1_; have HO179 := n2_; have HO183 := n3_; have HO189 := n4_; have HO193 := n5_; have BK176 := n6_; have BK186 := n7_; have HB := n8_; have BK196 := n9_; have GW196 := n10_; have GE196 := n11_; have NB176_196 := n12_; have NB196_176 := n13_; have NB186_196 := n14_; have NB196_186 := n15_; clear n0_ n1_ n2_ n3_ n4_ n5_ n6_ n7_ n8_ n9_ n10_ n11_ n12_ n13_ n14_ n15_; clear hb hbox hg; have hnb31 := NB196_176.out; have hnc31 := NB176_196.out; have hnb32 := NB196_186.out; have hnc32 := NB186_196.out; have hcz33_0 : w30.cell? ⟨gb196, 0, none⟩ = some (.int .u64 0) := (bC BK196.out 0).trans rfl; have hcz33_1 : w30.cell? ⟨gb196, 1, none⟩ = some (.slice none 0 0) := (bC BK196.out 1).trans rfl; have hcz33_2 : w30.cell? ⟨gb196, 2, none⟩ = some (.string (⟨#[]⟩ : ByteArray)) := (bC BK196.out 2).trans rfl; have hfz33_0 := bF BK196.out 0; have hfz33_1 := bF BK196.out 1; have hfz33_2 := bF BK196.out 2; obtain ⟨Ao34, co34, eo34⟩ := Kd.N_slice HO193.out; subst eo34) | ((with_reducible refine gate_callee (f := 36) rfl ?_); refine goesL_ (some 29) rfl rfl Tryd.func36 (by kernel_rfl) rfl #[.agg #[.int .u64 t190, .slice Ao34 t191.length co34, .string t194], .int .u64 6] rfl (by (try simp only [List.map_toArray, List.map_cons, List.map_nil]); first | done | rfl | (simp only [List.length_drop, List.length_take]; rfl) | (rw [wrap_sum2 (by assumption)]; rfl)) ?_; (with_reducible refine (journal_After.calls k t190 _ _ t191 t194 6 t197 _ ?side1 ?side2 A4.out).mono ?_); (case side1 => refine (Kd.N_reads' (e := 44) (base := w.heap.size) (ok := fun k_ => ((some k_ ≠ (.slice Ao13 y167.length co13 : Value).ownBlock ∧ (some k_ ≠ (.slice Ao20 y177.length co20 : Value).ownBlock ∧ (some k_ ≠ (.slice Ao28 y187.length co28 : Value).ownBlock ∧ (k_ ≠ gb176 ∧ k_ ≠ gb186)))) ∧ k_ ≠ gb196)) (n := t191.length) (c := co34) ?_).2.2; exact (by apply Kd.N_to; exact (Kd.N_mono (Kd.N_far (p := ⟨gb196, 2, none⟩) (Kd.N_far (p := ⟨gb196, 1, none⟩) (Kd.N_far (p := ⟨gb196, 0, none⟩) (Kd.N_mono HO193.out (fun k_ hk => (⟨hk, hk.2⟩ : _ ∧ k_ ≠ gb196))) (fun _ hk => hk.2) (.int .u64 t190)) (fun _ hk => hk.2) (.slice Ao34 t191.length co34)) (fun _ hk => hk.2) (.string t194)) (fun _ h_ => h_.1)))); (case side2 => exact (Kd.N_reads' HO193.out).2.1); rintro e w35 ⟨v198, rfl, ho0, hb⟩; refine ⟨_, rfl, ?_⟩; have n0_ := Ax.mk (Kd.R_elder' (by apply Kd.R_to; exact (Kd.R_mono (Kd.R_far (p := ⟨gb196, 2, none⟩) (Kd.R_far (p := ⟨gb196, 1, none⟩) (Kd.R_far (p := ⟨gb196, 0, none⟩) (Kd.R_types HO169.out BK196.out (by decide)) (fun _ hk => hk.2) (.int .u64 t190)) (fun _ hk => hk.2) (.slice Ao34 t191.length co34)) (fun _ hk => hk.2) (.string t194)) (fun _ h_ => h_.1))) (Kd.R_base ho0) hb); have n1_ := Ax.mk (Kd.N_elder' (by apply Kd.N_to; exact (Kd.N_mono (Kd.N_far (p := ⟨gb196, 2, none⟩) (Kd.N_far (p := ⟨gb196, 1, none⟩) (Kd.N_far (p := ⟨gb196, 0, none⟩) (Kd.N_mono HO173.out (fun k_ hk => (⟨hk, hk.2⟩ : _ ∧ k_ ≠ gb196))) (fun _ hk => hk.2) (.int .u64 t190)) (fun _ hk => hk.2) (.slice Ao34 t191.length co34)) (fun _ hk => hk.2) (.string t194)) (fun _ h_ => h_.1))) (Kd.R_base ho0) hb); have n2_ := Ax.mk (Kd.R_elder' (by apply Kd.R_to; exact (Kd.R_mono (Kd.R_far (p := ⟨gb196, 2, none⟩) (Kd.R_far (p := ⟨gb196, 1, none⟩) (Kd.R_far (p := ⟨gb196, 0, none⟩) (Kd.R_types HO179.out BK196.out (by decide)) (fun _ hk => hk.2) (.int .u64 t190)) (fun _ hk => hk.2) (.slice Ao34 t191.length co34)) (fun _ hk => hk.2) (.string t194)) (fun _ h_ => h_.1))) (Kd.R_base ho0) hb); have n3_ := Ax.mk (Kd.N_elder' (by apply Kd.N_to; exact (Kd.N_mono (Kd.N_far (p := ⟨gb196, 2, none⟩) (Kd.N_far (p := ⟨gb196, 1, none⟩) (Kd.N_far (p := ⟨gb196, 0, none⟩) (Kd.N_mono HO183.out (fun k_ hk => (⟨hk, hk.2⟩ : _ ∧ k_ ≠ gb196))) (fun _ hk => hk.2) (.int .u64 t190)) (fun _ hk => hk.2) (.slice Ao34 t191.length co34)) (fun _ hk => hk.2) (.string t194)) (fun _ h_ => h_.1))) (Kd.R_base ho0) hb); have n4_ := Ax.mk (Kd.R_elder' (by apply Kd.R_to; exact (Kd.R_mono (Kd.R_far (p := ⟨gb196, 2, none⟩) (Kd.R_far (p := ⟨gb196, 1, none⟩) (Kd.R_far (p := ⟨gb196, 0, none⟩) (Kd.R_types HO189.out BK196.out (by decide)) (fun _ hk => hk.2) (.int .u64 t190)) (fun _ hk => hk.2) (.slice Ao34 t191.length co34)) (fun _ hk => hk.2) (.string t194)) (fun _ h_ => h_.1))) (Kd.R_base ho0) hb); have n5_ := Ax.mk (Kd.N_elder' (by apply Kd.N_to; exact (Kd.N_mono (Kd.N_far (p := ⟨gb196, 2, none⟩) (Kd.N_far (p := ⟨gb196, 1, none⟩) (Kd.N_far (p := ⟨gb196, 0, none⟩) (Kd.N_mono HO193.out (fun k_ hk => (⟨hk, hk.2⟩ : _ ∧ k_ ≠ gb196))) (fun _ hk => hk.2) (.int .u64 t190)) (fun _ hk => hk.2) (.slice Ao34 t191.length co34)) (fun _ hk => hk.2) (.string t194)) (fun _ h_ => h_.1))) (Kd.R_base ho0) hb); have n6_ := Ax.mk (Kd.R_lower (Kd.R_new' (Kd.R_new' (Kd.R_new' ho0 (Kd.R_lt (by apply Kd.R_to; exact (Kd.R_mono (Kd.R_far (p := ⟨gb196, 2, none⟩) (Kd.R_far (p := ⟨gb196, 1, none⟩) (Kd.R_far (p := ⟨gb196, 0, none⟩) (Kd.R_types HO169.out BK196.out (by decide)) (fun _ hk => hk.2) (.int .u64 t190)) (fun _ hk => hk.2) (.slice Ao34 t191.length co34)) (fun _ hk => hk.2) (.string t194)) (fun _ h_ => h_.1))))) (Kd.R_lt (by apply Kd.R_to; exact (Kd.R_mono (Kd.R_far (p := ⟨gb196, 2, none⟩) (Kd.R_far (p := ⟨gb196, 1, none⟩) (Kd.R_far (p := ⟨gb196, 0, none⟩) (Kd.R_types HO179.out BK196.out (by decide)) (fun _ hk => hk.2) (.int .u64 t190)) (fun _ hk => hk.2) (.slice Ao34 t191.length co34)) (fun _ hk => hk.2) (.string t194)) (fun _ h_ => h_.1))))) (Kd.R_lt (by apply Kd.R_to; exact (Kd.R_mono (Kd.R_far (p := ⟨gb196, 2, none⟩) (Kd.R_far (p := ⟨gb196, 1, none⟩) (Kd.R_far (p := ⟨gb196, 0, none⟩) (Kd.R_types HO189.out BK196.out (by decide)) (fun _ hk => hk.2) (.int .u64 t190)) (fun _ hk => hk.2) (.slice Ao34 t191.length co34)) (fun _ hk => hk.2) (.string t194)) (fun _ h_ => h_.1))))) (bS bA)); have n7_ := Ax.mk (bB (g := gb176) (o := .cells #[.int .u64 t170, .slice Ao17 t171.length co17, .string t174] 66 (0, 0)) (by refine bT ?_; refine bR ?_ NB176_196.out _; refine bT ?_; refine bR ?_ NB176_196.out _; refine bT ?_; refine bR ?_ NB176_196.out _; exact bT BK176.out) hb); have n8_ := Ax.mk (bB (g := gb186) (o := .cells #[.int .u64 t180, .slice Ao25 t181.length co25, .string t184] 66 (0, 0)) (by refine bT ?_; refine bR ?_ NB186_196.out _; refine bT ?_; refine bR ?_ NB186_196.out _; refine bT ?_; refine bR ?_ NB186_196.out _; exact bT BK186.out) hb); have n9_ := Ax.mk (bB (g := gb196) (o := .cells #[.int .u64 t190, .slice Ao34 t191.length co34, .string t194] 66 (0, 0)) (by refine bT ?_; refine bU (cs := #[.int .u64 t190, .slice Ao34 t191.length co34, .string (⟨#[]⟩ : ByteArray)]) ?_ 2 _ rfl; refine bT ?_; refine bU (cs := #[.int .u64 t190, .slice none 0 0, .string (⟨#[]⟩ : ByteArray)]) ?_ 1 _ rfl; refine bT ?_; refine bU (cs := #[.int .u64 0, .slice none 0 0, .string (⟨#[]⟩ : ByteArray)]) ?_ 0 _ rfl; exact bT BK196.out) hb); have n10_ := Ax.mk (bP bA hb); clear HO169; clear HO173; clear HO179; clear HO183; clear HO189; clear HO193; clear BK176; clear BK186; clear BK196; clear HB; have HO169 := n0_; have HO173 := n1_; have HO179 := n2_; have HO183 := n3_; have HO189 := n4_; have HO193 := n5_; have HO199 := n6_; have BK176 := n7_; have BK186 := n8_; have BK196 := n9_; have HB := n10_; clear n0_ n1_ n2_ n3_ n4_ n5_ n6_ n7_ n8_ n9_ n10_; (try clear hb); (try clear hb2); (try clear hk); (try clear hi); (try clear ho0); have hcz36_0 : w35.cell? ⟨gb196, 0, none⟩ = some (.int .u64 t190) := (bC BK196.out 0).trans rfl; have hcz36_1 : w35.cell? ⟨gb196, 1, none⟩ = some (.slice Ao34 t191.length co34) := (bC BK196.out 1).trans rfl; have hcz36_2 : w35.cell? ⟨gb196, 2, none⟩ = some (.string t194) := (bC BK196.out 2).trans rfl; have hfz36_0 := bF BK196.out 0; have hfz36_1 := bF BK196.out 1; have hfz36_2 := bF BK196.out 2; obtain ⟨Ao37, co37, eo37⟩ := Kd.R_slice HO199.out; subst eo37; have p200 : 0 ≤ (0 : Int) := (by omega); have q200 : 0 < (t197.length : Int) := ofD; obtain ⟨ad200, e200, hx200_0, hx200_1, hx200_2, hx200_3, hx200_4⟩ := at_T24 (Kd.R_reads' HO199.out).2.2 0 p200 q200; cases e200; have qi200 : (0 < t197.length) = True := eq_true (by omega); (try rw [show ((0 : Int)).toNat = 0 from rfl] at hx200_0); (try rw [show 0 * 5 = 0 from rfl] at hx200_0); (try rw [Addr.add_zero'] at hx200_0); (try rw [show ((0 : Int)).toNat = 0 from rfl] at hx200_1); (try rw [show 0 * 5 = 0 from rfl] at hx200_1); (try rw [Addr.add_zero'] at hx200_1); (try rw [show ((0 : Int)).toNat = 0 from rfl] at hx200_2); (try rw [show 0 * 5 = 0 from rfl] at hx200_2); (try rw [Addr.add_zero'] at hx200_2); (try rw [show ((0 : Int)).toNat = 0 from rfl] at hx200_3); (try rw [show 0 * 5 = 0 from rfl] at hx200_3); (try rw [Addr.add_zero'] at hx200_3); (try rw [show ((0 : Int)).toNat = 0 from rfl] at hx200_4); (try rw [show 0 * 5 = 0 from rfl] at hx200_4); (try rw [Addr.add_zero'] at hx200_4); replace p200 := eq_true p200; replace q200 := eq_true q200))
       go_ret
       exact ⟨by first | rfl | (simp [errW_none, errW_some] <;> rfl) | (simp [*, errW_none, errW_some] <;> rfl), bA⟩
      ·rw [if_neg c10] at H
       exact absurd H (by simp)
     ·rw [if_neg c9] at H
      exact absurd H (by simp)
    ·rw [if_neg c8] at H
     exact absurd H (by simp)
   ·rw [if_neg c7] at H
    exact absurd H (by simp)
  ·rw [if_neg c6] at H
   exact absurd H (by simp)
 ·rw [if_neg c5] at H
  exact absurd H (by simp)
def l13_sameSteps.l0 : Nat → List (S24) → List (S26) → Int → Option (Bool)
 | 0, _, _, _ => none
 | k + 1, x0, x1, x5 => if x5 < (x0.length : Int) then (if 0 ≤ x5 then (if x5 < (x1.length : Int) then (if ((rd_T24 x0 x5).f0) = ((rd_T26 x1 x5).f0) then (if ((rd_T24 x0 x5).f1) = ((rd_T26 x1 x5).f1) then (if ((rd_T24 x0 x5).f2) = ((rd_T26 x1 x5).f2) then (if ((rd_T24 x0 x5).f3) = ((rd_T26 x1 x5).f3) then (if ((rd_T24 x0 x5).f4).toList = ((rd_T26 x1 x5).f4).toList then (l13_sameSteps.l0 k x0 x1 (wrap64 (x5 + 1))) else (none)) else (none)) else (none)) else (none)) else (none)) else (none)) else (none)) else (some true)
def l13_sameSteps.f (k : Nat) (l0 : List (S24)) (l1 : List (S26)) : Option (Bool) := if (l0.length : Int) = (l1.length : Int) then (l13_sameSteps.l0 k l0 l1 0) else (none)
theorem l13_sameSteps.mono_l : ∀ k, (∀ y0 y1 y2, LeO (l13_sameSteps.l0 k y0 y1 y2) (l13_sameSteps.l0 (k + 1) y0 y1 y2))
 | 0 => fun _ _ _ r h => by simp [l13_sameSteps.l0] at h
 | k + 1 => by
  have ih0 := l13_sameSteps.mono_l k
  ·intro y0 y1 y2
   unfold l13_sameSteps.l0
   repeat' first
   | (with_reducible exact ih0 _ _ _)
   | (with_reducible exact LeO.refl _)
   | (with_reducible exact LeO.none _)
   | (with_reducible refine LeO.ite ?_ ?_)
   | (with_reducible refine LeO.bind ?_ (fun _ => ?_))
   | exact ih0 _ _ _
   | exact LeO.none _
   | refine LeO.ite ?_ ?_
   | refine LeO.bind ?_ (fun _ => ?_)
theorem l13_sameSteps.mono : ∀ a0 a1 k, LeO (l13_sameSteps.f k a0 a1) (l13_sameSteps.f (k + 1) a0 a1) := by
 intro a0 a1 k
 have ih0 := l13_sameSteps.mono_l k
 unfold l13_sameSteps.f
 repeat' first
   | (with_reducible exact ih0 _ _ _)
   | (with_reducible exact LeO.refl _)
   | (with_reducible exact LeO.none _)
   | (with_reducible refine LeO.ite ?_ ?_)
   | (with_reducible refine LeO.bind ?_ (fun _ => ?_))
   | exact ih0 _ _ _
   | exact LeO.none _
   | refine LeO.ite ?_ ?_
   | refine LeO.bind ?_ (fun _ => ?_)
set_option maxHeartbeats 8000000 in
set_option maxRecDepth 100000 in
theorem l13_sameSteps.calls (k : Nat) (A0 : Option Addr) (c0 : Nat) (l0 : List (S24)) (A1 : Option Addr) (c1 : Nat) (l1 : List (S26)) (r : Bool) (w : World) (hr0 : Kd.C k24 w A0 l0.length l0) (hc0 : l0.length ≤ c0) (hr1 : Kd.C k26 w A1 l1.length l1) (hc1 : l1.length ≤ c1) (h : l13_sameSteps.f k l0 l1 = some r) :
  Calls Tryd.prog 35 #[.slice A0 l0.length c0, .slice A1 l1.length c1] w fun e w' => e = .returned (.bool r) ∧ Below w.heap.size w w' := by
 have hu24 := Tryd.underlying24
 have hu26 := Tryd.underlying26
 have HR0 := Ax.mk hr0
 have HC0 := Ax.mk hc0
 clear hr0 hc0
 have HR1 := Ax.mk hr1
 have HC1 := Ax.mk hc1
 clear hr1 hc1
 have HB := Ax.mk (Below.refl w.heap.size w)
 have H : (if (l0.length : Int) = (l1.length : Int) then (l13_sameSteps.l0 k l0 l1 0) else (none)) = some r := h
 clear h
 by_cases c3 : (l0.length : Int) = (l1.length : Int)
 ·rw [if_pos c3] at H
  have c3b0 : ((l0.length : Int) == (l1.length : Int)) = true := beq_iff_eq.mpr c3
  have c3b1 : ((l0.length : Int) != (l1.length : Int)) = false := bne_eq_false_iff_eq.mpr c3
  have c3b2 : (l0.length == l1.length) = true := by first | simpa using c3 | (simp at c3 ⊢; omega)
  clear c3
  have H' := Ax.mk H
  clear H
  go_enter Tryd.func35, Tryd.ntmps35
  go_wp2
  go_loopg [5] k (fun kq v5 w' => ∃ (x5_1 : Int), v5 = .int .i64 x5_1 ∧ Ax (l13_sameSteps.l0 kq l0 l1 x5_1 = some r) ∧ Ax (kq ≤ k) ∧ Ax (Below w.heap.size w w'))
  case atStart => exact ⟨(0), (by first | rfl | (simp; done) | (simp [*]; done)), H', ⟨Nat.le_refl _⟩, ⟨bA⟩⟩
  case round =>
   clear H'
   try clear c1
   try clear p2
   try clear c3
   try clear c3b0
   try clear c3b1
   try clear c3b2
   obtain ⟨x5_1, rfl, HA, HK1, HB⟩ := hrel
   cases gk with
   | zero => exact absurd HA.out (by simp [l13_sameSteps.l0])
   | succ k1 =>
    have H := HA.out
    clear HA
    simp only [l13_sameSteps.l0] at H
    by_cases c4 : x5_1 < (l0.length : Int)
    ·rw [if_pos c4] at H
     have c4b0 : decide (x5_1 < (l0.length : Int)) = true := decide_eq_true c4
     clear c4
     by_cases c5 : 0 ≤ x5_1
     ·rw [if_pos c5] at H
      have c5b0 : decide (0 ≤ x5_1) = true := decide_eq_true c5
      clear c5
      by_cases c6 : x5_1 < (l1.length : Int)
      ·rw [if_pos c6] at H
       have c6b0 : decide (x5_1 < (l1.length : Int)) = true := decide_eq_true c6
       clear c6
       by_cases c7 : ((rd_T24 l0 x5_1).f0) = ((rd_T26 l1 x5_1).f0)
       ·rw [if_pos c7] at H
        have c7b0 : (((rd_T24 l0 x5_1).f0) == ((rd_T26 l1 x5_1).f0)) = true := beq_iff_eq.mpr c7
        have c7b1 : (((rd_T24 l0 x5_1).f0) != ((rd_T26 l1 x5_1).f0)) = false := bne_eq_false_iff_eq.mpr c7
        clear c7
        by_cases c8 : ((rd_T24 l0 x5_1).f1) = ((rd_T26 l1 x5_1).f1)
        ·rw [if_pos c8] at H
         have c8b0 : (((rd_T24 l0 x5_1).f1) == ((rd_T26 l1 x5_1).f1)) = true := beq_iff_eq.mpr c8
         have c8b1 : (((rd_T24 l0 x5_1).f1) != ((rd_T26 l1 x5_1).f1)) = false := bne_eq_false_iff_eq.mpr c8
         clear c8
         by_cases c9 : ((rd_T24 l0 x5_1).f2) = ((rd_T26 l1 x5_1).f2)
         ·rw [if_pos c9] at H
          have c9b0 : (((rd_T24 l0 x5_1).f2) == ((rd_T26 l1 x5_1).f2)) = true := beq_iff_eq.mpr c9
          have c9b1 : (((rd_T24 l0 x5_1).f2) != ((rd_T26 l1 x5_1).f2)) = false := bne_eq_false_iff_eq.mpr c9
          clear c9
          by_cases c10 : ((rd_T24 l0 x5_1).f3) = ((rd_T26 l1 x5_1).f3)
          ·rw [if_pos c10] at H
           have c10b0 : (((rd_T24 l0 x5_1).f3) == ((rd_T26 l1 x5_1).f3)) = true := beq_iff_eq.mpr c10
           have c10b1 : (((rd_T24 l0 x5_1).f3) != ((rd_T26 l1 x5_1).f3)) = false := bne_eq_false_iff_eq.mpr c10
           clear c10
           by_cases c11 : ((rd_T24 l0 x5_1).f4).toList = ((rd_T26 l1 x5_1).f4).toList
           ·rw [if_pos c11] at H
            have c11b0 : (((rd_T24 l0 x5_1).f4).toList == ((rd_T26 l1 x5_1).f4).toList) = true := beq_iff_eq.mpr c11
            have c11b1 : (((rd_T24 l0 x5_1).f4).toList != ((rd_T26 l1 x5_1).f4).toList) = false := bne_eq_false_iff_eq.mpr c11
            clear c11
            have H' := Ax.mk H
            clear H
            have p201 : 0 ≤ (x5_1 : Int) := ofD
            have q201 : x5_1 < (l0.length : Int) := ofD
            obtain ⟨ad201, e201, hx201_0, hx201_1, hx201_2, hx201_3, hx201_4⟩ := at_T24 HR0.out x5_1 p201 q201
            cases e201
            replace hx201_0 := (HB.out.cell (World.block_lt_of_cell? w _ hx201_0)).trans hx201_0
            replace hx201_1 := (HB.out.cell (World.block_lt_of_cell? w _ hx201_1)).trans hx201_1
            replace hx201_2 := (HB.out.cell (World.block_lt_of_cell? w _ hx201_2)).trans hx201_2
            replace hx201_3 := (HB.out.cell (World.block_lt_of_cell? w _ hx201_3)).trans hx201_3
            replace hx201_4 := (HB.out.cell (World.block_lt_of_cell? w _ hx201_4)).trans hx201_4
            replace p201 := eq_true p201
            replace q201 := eq_true q201
            go_wp2_with (first | ((with_reducible refine gate_dst (N := 6) rfl ?_); refine box_event ?hg (N := 6) ?hd (cs := #[.int .i64 0, .int .i64 0, .int .i64 0, .int .u64 0, .string (⟨#[]⟩ : ByteArray)]) (t := 24) ?hr ?_; (case hd => rfl); (case hg => rfl); (case hr => first | (go_simp; done) | (go_simp; rfl)); intro gb202 hg w12 hbox hb; have n0_ := Ax.mk (bP bA hb); have n1_ := Ax.mk (hbox); have n2_ := Ax.mk ((ge_new hg : w.heap.size ≤ gb202)); have n3_ := n2_; clear HB; have HB := n0_; have BK202 := n1_; have GW202 := n2_; have GE202 := n3_; clear n0_ n1_ n2_ n3_; clear hb hbox hg; have hcz13_0 : w12.cell? ⟨gb202, 0, none⟩ = some (.int .i64 0) := (bC BK202.out 0).trans rfl; have hcz13_1 : w12.cell? ⟨gb202, 1, none⟩ = some (.int .i64 0) := (bC BK202.out 1).trans rfl; have hcz13_2 : w12.cell? ⟨gb202, 2, none⟩ = some (.int .i64 0) := (bC BK202.out 2).trans rfl; have hcz13_3 : w12.cell? ⟨gb202, 3, none⟩ = some (.int .u64 0) := (bC BK202.out 3).trans rfl; have hcz13_4 : w12.cell? ⟨gb202, 4, none⟩ = some (.string (⟨#[]⟩ : ByteArray)) := (bC BK202.out 4).trans rfl; have hfz13_0 := bF BK202.out 0; have hfz13_1 := bF BK202.out 1; have hfz13_2 := bF BK202.out 2; have hfz13_3 := bF BK202.out 3; have hfz13_4 := bF BK202.out 4; have p203 : 0 ≤ (x5_1 : Int) := ofD; have q203 : x5_1 < (l1.length : Int) := ofD; obtain ⟨ad203, e203, hx203_0, hx203_1, hx203_2, hx203_3, hx203_4⟩ := at_T26 HR1.out x5_1 p203 q203; cases e203; have hn203_0 : ad203.block ≠ gb202 := Nat.ne_of_lt (Nat.lt_of_lt_of_le (by have := World.block_lt_of_cell? _ _ hx203_0; first | rwa [add_block] at this | exact this) GW202.out); have hn203_1 : ad203.block ≠ gb202 := Nat.ne_of_lt (Nat.lt_of_lt_of_le (by have := World.block_lt_of_cell? _ _ hx203_0; first | rwa [add_block] at this | exact this) GW202.out); have hn203_2 : ad203.block ≠ gb202 := Nat.ne_of_lt (Nat.lt_of_lt_of_le (by have := World.block_lt_of_cell? _ _ hx203_0; first | rwa [add_block] at this | exact this) GW202.out); have hn203_3 : ad203.block ≠ gb202 := Nat.ne_of_lt (Nat.lt_of_lt_of_le (by have := World.block_lt_of_cell? _ _ hx203_0; first | rwa [add_block] at this | exact this) GW202.out); have hn203_4 : ad203.block ≠ gb202 := Nat.ne_of_lt (Nat.lt_of_lt_of_le (by have := World.block_lt_of_cell? _ _ hx203_0; first | rwa [add_block] at this | exact this) GW202.out); replace hx203_0 := (HB.out.cell (World.block_lt_of_cell? w _ hx203_0)).trans hx203_0; replace hx203_1 := (HB.out.cell (World.block_lt_of_cell? w _ hx203_1)).trans hx203_1; replace hx203_2 := (HB.out.cell (World.block_lt_of_cell? w _ hx203_2)).trans hx203_2; replace hx203_3 := (HB.out.cell (World.block_lt_of_cell? w _ hx203_3)).trans hx203_3; replace hx203_4 := (HB.out.cell (World.block_lt_of_cell? w _ hx203_4)).trans hx203_4; replace hx203_0 := (cell_far (p := ⟨gb202, 0, none⟩) (by first | (rw [add_block]; exact hn203_0) | (show (Addr.add _ _).block ≠ _; rw [add_block]; exact hn203_0) | exact hn203_0) (.int .i64 ((rd_T24 l0 x5_1).f0))).trans hx203_0; replace hx203_1 := (cell_far (p := ⟨gb202, 0, none⟩) (by first | (rw [add_block]; exact hn203_0) | (show (Addr.add _ _).block ≠ _; rw [add_block]; exact hn203_0) | exact hn203_0) (.int .i64 ((rd_T24 l0 x5_1).f0))).trans hx203_1; replace hx203_2 := (cell_far (p := ⟨gb202, 0, none⟩) (by first | (rw [add_block]; exact hn203_0) | (show (Addr.add _ _).block ≠ _; rw [add_block]; exact hn203_0) | exact hn203_0) (.int .i64 ((rd_T24 l0 x5_1).f0))).trans hx203_2; replace hx203_3 := (cell_far (p := ⟨gb202, 0, none⟩) (by first | (rw [add_block]; exact hn203_0) | (show (Addr.add _ _).block ≠ _; rw [add_block]; exact hn203_0) | exact hn203_0) (.int .i64 ((rd_T24 l0 x5_1).f0))).trans hx203_3; replace hx203_4 := (cell_far (p := ⟨gb202, 0, none⟩) (by first | (rw [add_block]; exact hn203_0) | (show (Addr.add _ _).block ≠ _; rw [add_block]; exact hn203_0) | exact hn203_0) (.int .i64 ((rd_T24 l0 x5_1).f0))).trans hx203_4; replace hx203_0 := (cell_far (p := ⟨gb202, 1, none⟩) (by first | (rw [add_block]; exact hn203_1) | (show (Addr.add _ _).block ≠ _; rw [add_block]; exact hn203_1) | exact hn203_1) (.int .i64 ((rd_T24 l0 x5_1).f1))).trans hx203_0; replace hx203_1 := (cell_far (p := ⟨gb202, 1, none⟩) (by first | (rw [add_block]; exact hn203_1) | (show (Addr.add _ _).block ≠ _; rw [add_block]; exact hn203_1) | exact hn203_1) (.int .i64 ((rd_T24 l0 x5_1).f1))).trans hx203_1; replace hx203_2 := (cell_far (p := ⟨gb202, 1, none⟩) (by first | (rw [add_block]; exact hn203_1) | (show (Addr.add _ _).block ≠ _; rw [add_block]; exact hn203_1) | exact hn203_1) (.int .i64 ((rd_T24 l0 x5_1).f1))).trans hx203_2; replace hx203_3 := (cell_far (p := ⟨gb202, 1, none⟩) (by first | (rw [add_block]; exact hn203_1) | (show (Addr.add _ _).block ≠ _; rw [add_block]; exact hn203_1) | exact hn203_1) (.int .i64 ((rd_T24 l0 x5_1).f1))).trans hx203_3; replace hx203_4 := (cell_far (p := ⟨gb202, 1, none⟩) (by first | (rw [add_block]; exact hn203_1) | (show (Addr.add _ _).block ≠ _; rw [add_block]; exact hn203_1) | exact hn203_1) (.int .i64 ((rd_T24 l0 x5_1).f1))).trans hx203_4; replace hx203_0 := (cell_far (p := ⟨gb202, 2, none⟩) (by first | (rw [add_block]; exact hn203_2) | (show (Addr.add _ _).block ≠ _; rw [add_block]; exact hn203_2) | exact hn203_2) (.int .i64 ((rd_T24 l0 x5_1).f2))).trans hx203_0; replace hx203_1 := (cell_far (p := ⟨gb202, 2, none⟩) (by first | (rw [add_block]; exact hn203_2) | (show (Addr.add _ _).block ≠ _; rw [add_block]; exact hn203_2) | exact hn203_2) (.int .i64 ((rd_T24 l0 x5_1).f2))).trans hx203_1; replace hx203_2 := (cell_far (p := ⟨gb202, 2, none⟩) (by first | (rw [add_block]; exact hn203_2) | (show (Addr.add _ _).block ≠ _; rw [add_block]; exact hn203_2) | exact hn203_2) (.int .i64 ((rd_T24 l0 x5_1).f2))).trans hx203_2; replace hx203_3 := (cell_far (p := ⟨gb202, 2, none⟩) (by first | (rw [add_block]; exact hn203_2) | (show (Addr.add _ _).block ≠ _; rw [add_block]; exact hn203_2) | exact hn203_2) (.int .i64 ((rd_T24 l0 x5_1).f2))).trans hx203_3; replace hx203_4 := (cell_far (p := ⟨gb202, 2, none⟩) (by first | (rw [add_block]; exact hn203_2) | (show (Addr.add _ _).block ≠ _; rw [add_block]; exact hn203_2) | exact hn203_2) (.int .i64 ((rd_T24 l0 x5_1).f2))).trans hx203_4; replace hx203_0 := (cell_far (p := ⟨gb202, 3, none⟩) (by first | (rw [add_block]; exact hn203_3) | (show (Addr.add _ _).block ≠ _; rw [add_block]; exact hn203_3) | exact hn203_3) (.int .u64 ((rd_T24 l0 x5_1).f3))).trans hx203_0; replace hx203_1 := (cell_far (p := ⟨gb202, 3, none⟩) (by first | (rw [add_block]; exact hn203_3) | (show (Addr.add _ _).block ≠ _; rw [add_block]; exact hn203_3) | exact hn203_3) (.int .u64 ((rd_T24 l0 x5_1).f3))).trans hx203_1; replace hx203_2 := (cell_far (p := ⟨gb202, 3, none⟩) (by first | (rw [add_block]; exact hn203_3) | (show (Addr.add _ _).block ≠ _; rw [add_block]; exact hn203_3) | exact hn203_3) (.int .u64 ((rd_T24 l0 x5_1).f3))).trans hx203_2; replace hx203_3 := (cell_far (p := ⟨gb202, 3, none⟩) (by first | (rw [add_block]; exact hn203_3) | (show (Addr.add _ _).block ≠ _; rw [add_block]; exact hn203_3) | exact hn203_3) (.int .u64 ((rd_T24 l0 x5_1).f3))).trans hx203_3; replace hx203_4 := (cell_far (p := ⟨gb202, 3, none⟩) (by first | (rw [add_block]; exact hn203_3) | (show (Addr.add _ _).block ≠ _; rw [add_block]; exact hn203_3) | exact hn203_3) (.int .u64 ((rd_T24 l0 x5_1).f3))).trans hx203_4; replace hx203_0 := (cell_far (p := ⟨gb202, 4, none⟩) (by first | (rw [add_block]; exact hn203_4) | (show (Addr.add _ _).block ≠ _; rw [add_block]; exact hn203_4) | exact hn203_4) (.string ((rd_T24 l0 x5_1).f4))).trans hx203_0; replace hx203_1 := (cell_far (p := ⟨gb202, 4, none⟩) (by first | (rw [add_block]; exact hn203_4) | (show (Addr.add _ _).block ≠ _; rw [add_block]; exact hn203_4) | exact hn203_4) (.string ((rd_T24 l0 x5_1).f4))).trans hx203_1; replace hx203_2 := (cell_far (p := ⟨gb202, 4, none⟩) (by first | (rw [add_block]; exact hn203_4) | (show (Addr.add _ _).block ≠ _; rw [add_block]; exact hn203_4) | exact hn203_4) (.string ((rd_T24 l0 x5_1).f4))).trans hx203_2; replace hx203_3 := (cell_far (p := ⟨gb202, 4, none⟩) (by first | (rw [add_block]; exact hn203_4) | (show (Addr.add _ _).block ≠ _; rw [add_block]; exact hn203_4) | exact hn203_4) (.string ((rd_T24 l0 x5_1).f4))).trans hx203_3; replace hx203_4 := (cell_far (p := ⟨gb202, 4, none⟩) (by first | (rw [add_block]; exact hn203_4) | (show (Addr.add _ _).block ≠ _; rw [add_block]; exact hn203_4) | exact hn203_4) (.string ((rd_T24 l0 x5_1).f4))).trans hx203_4; clear hn203_0; clear hn203_1; clear hn203_2; clear hn203_3; clear hn203_4; replace p203 := eq_true p203; replace q203 := eq_true q203) | ((with_reducible refine gate_dst (N := 7) rfl ?_); refine box_event ?hg (N := 7) ?hd (cs := #[.int .i64 0, .int .i64 0, .int .i64 0, .int .u64 0, .string (⟨#[]⟩ : ByteArray)]) (t := 26) ?hr ?_; (case hd => rfl); (case hg => rfl); (case hr => first | (go_simp; done) | (go_simp; rfl)); intro gb204 hg w14 hbox hb; have n0_ := Ax.mk (bB (g := gb202) (o := .cells #[.int .i64 ((rd_T24 l0 x5_1).f0), .int .i64 ((rd_T24 l0 x5_1).f1), .int .i64 ((rd_T24 l0 x5_1).f2), .int .u64 ((rd_T24 l0 x5_1).f3), .string ((rd_T24 l0 x5_1).f4)] 24 (0, 0)) (by refine bT ?_; refine bU (cs := #[.int .i64 ((rd_T24 l0 x5_1).f0), .int .i64 ((rd_T24 l0 x5_1).f1), .int .i64 ((rd_T24 l0 x5_1).f2), .int .u64 ((rd_T24 l0 x5_1).f3), .string (⟨#[]⟩ : ByteArray)]) ?_ 4 _ rfl; refine bT ?_; refine bU (cs := #[.int .i64 ((rd_T24 l0 x5_1).f0), .int .i64 ((rd_T24 l0 x5_1).f1), .int .i64 ((rd_T24 l0 x5_1).f2), .int .u64 0, .string (⟨#[]⟩ : ByteArray)]) ?_ 3 _ rfl; refine bT ?_; refine bU (cs := #[.int .i64 ((rd_T24 l0 x5_1).f0), .int .i64 ((rd_T24 l0 x5_1).f1), .int .i64 0, .int .u64 0, .string (⟨#[]⟩ : ByteArray)]) ?_ 2 _ rfl; refine bT ?_; refine bU (cs := #[.int .i64 ((rd_T24 l0 x5_1).f0), .int .i64 0, .int .i64 0, .int .u64 0, .string (⟨#[]⟩ : ByteArray)]) ?_ 1 _ rfl; refine bT ?_; refine bU (cs := #[.int .i64 0, .int .i64 0, .int .i64 0, .int .u64 0, .string (⟨#[]⟩ : ByteArray)]) ?_ 0 _ rfl; exact bT BK202.out) hb); have n1_ := Ax.mk (bP bA hb); have n2_ := Ax.mk (hbox); have n3_ := Ax.mk ((ge_new hg : w.heap.size ≤ gb204)); have n4_ := n3_; have n5_ := Ax.mk ((by rw [hg]; exact Nat.ne_of_lt (bL (g := gb202) (o := .cells #[.int .i64 ((rd_T24 l0 x5_1).f0), .int .i64 ((rd_T24 l0 x5_1).f1), .int .i64 ((rd_T24 l0 x5_1).f2), .int .u64 ((rd_T24 l0 x5_1).f3), .string ((rd_T24 l0 x5_1).f4)] 24 (0, 0)) (by refine bT ?_; refine bU (cs := #[.int .i64 ((rd_T24 l0 x5_1).f0), .int .i64 ((rd_T24 l0 x5_1).f1), .int .i64 ((rd_T24 l0 x5_1).f2), .int .u64 ((rd_T24 l0 x5_1).f3), .string (⟨#[]⟩ : ByteArray)]) ?_ 4 _ rfl; refine bT ?_; refine bU (cs := #[.int .i64 ((rd_T24 l0 x5_1).f0), .int .i64 ((rd_T24 l0 x5_1).f1), .int .i64 ((rd_T24 l0 x5_1).f2), .int .u64 0, .string (⟨#[]⟩ : ByteArray)]) ?_ 3 _ rfl; refine bT ?_; refine bU (cs := #[.int .i64 ((rd_T24 l0 x5_1).f0), .int .i64 ((rd_T24 l0 x5_1).f1), .int .i64 0, .int .u64 0, .string (⟨#[]⟩ : ByteArray)]) ?_ 2 _ rfl; refine bT ?_; refine bU (cs := #[.int .i64 ((rd_T24 l0 x5_1).f0), .int .i64 0, .int .i64 0, .int .u64 0, .string (⟨#[]⟩ : ByteArray)]) ?_ 1 _ rfl; refine bT ?_; refine bU (cs := #[.int .i64 0, .int .i64 0, .int .i64 0, .int .u64 0, .string (⟨#[]⟩ : ByteArray)]) ?_ 0 _ rfl; exact bT BK202.out)) : gb202 ≠ gb204)); have n6_ := Ax.mk ((by rw [hg]; exact Nat.ne_of_gt (bL (g := gb202) (o := .cells #[.int .i64 ((rd_T24 l0 x5_1).f0), .int .i64 ((rd_T24 l0 x5_1).f1), .int .i64 ((rd_T24 l0 x5_1).f2), .int .u64 ((rd_T24 l0 x5_1).f3), .string ((rd_T24 l0 x5_1).f4)] 24 (0, 0)) (by refine bT ?_; refine bU (cs := #[.int .i64 ((rd_T24 l0 x5_1).f0), .int .i64 ((rd_T24 l0 x5_1).f1), .int .i64 ((rd_T24 l0 x5_1).f2), .int .u64 ((rd_T24 l0 x5_1).f3), .string (⟨#[]⟩ : ByteArray)]) ?_ 4 _ rfl; refine bT ?_; refine bU (cs := #[.int .i64 ((rd_T24 l0 x5_1).f0), .int .i64 ((rd_T24 l0 x5_1).f1), .int .i64 ((rd_T24 l0 x5_1).f2), .int .u64 0, .string (⟨#[]⟩ : ByteArray)]) ?_ 3 _ rfl; refine bT ?_; refine bU (cs := #[.int .i64 ((rd_T24 l0 x5_1).f0), .int .i64 ((rd_T24 l0 x5_1).f1), .int .i64 0, .int .u64 0, .string (⟨#[]⟩ : ByteArray)]) ?_ 2 _ rfl; refine bT ?_; refine bU (cs := #[.int .i64 ((rd_T24 l0 x5_1).f0), .int .i64 0, .int .i64 0, .int .u64 0, .string (⟨#[]⟩ : ByteArray)]) ?_ 1 _ rfl; refine bT ?_; refine bU (cs := #[.int .i64 0, .int .i64 0, .int .i64 0, .int .u64 0, .string (⟨#[]⟩ : ByteArray)]) ?_ 0 _ rfl; exact bT BK202.out)) : gb204 ≠ gb202)); clear BK202; clear HB; have BK202 := n0_; have HB := n1_; have BK204 := n2_; have GW204 := n3_; have GE204 := n4_; have NB202_204 := n5_; have NB204_202 := n6_; clear n0_ n1_ n2_ n3_ n4_ n5_ n6_; clear hb hbox hg; have hnb15 := NB204_202.out; have hnc15 := NB202_204.out; have hcz16_0 : w14.cell? ⟨gb204, 0, none⟩ = some (.int .i64 0) := (bC BK204.out 0).trans rfl; have hcz16_1 : w14.cell? ⟨gb204, 1, none⟩ = some (.int .i64 0) := (bC BK204.out 1).trans rfl; have hcz16_2 : w14.cell? ⟨gb204, 2, none⟩ = some (.int .i64 0) := (bC BK204.out 2).trans rfl; have hcz16_3 : w14.cell? ⟨gb204, 3, none⟩ = some (.int .u64 0) := (bC BK204.out 3).trans rfl; have hcz16_4 : w14.cell? ⟨gb204, 4, none⟩ = some (.string (⟨#[]⟩ : ByteArray)) := (bC BK204.out 4).trans rfl; have hfz16_0 := bF BK204.out 0; have hfz16_1 := bF BK204.out 1; have hfz16_2 := bF BK204.out 2; have hfz16_3 := bF BK204.out 3; have hfz16_4 := bF BK204.out 4; have hcz17_0 : w14.cell? ⟨gb202, 0, none⟩ = some (.int .i64 ((rd_T24 l0 x5_1).f0)) := (bC BK202.out 0).trans rfl; have hcz17_1 : w14.cell? ⟨gb202, 1, none⟩ = some (.int .i64 ((rd_T24 l0 x5_1).f1)) := (bC BK202.out 1).trans rfl; have hcz17_2 : w14.cell? ⟨gb202, 2, none⟩ = some (.int .i64 ((rd_T24 l0 x5_1).f2)) := (bC BK202.out 2).trans rfl; have hcz17_3 : w14.cell? ⟨gb202, 3, none⟩ = some (.int .u64 ((rd_T24 l0 x5_1).f3)) := (bC BK202.out 3).trans rfl; have hcz17_4 : w14.cell? ⟨gb202, 4, none⟩ = some (.string ((rd_T24 l0 x5_1).f4)) := (bC BK202.out 4).trans rfl; have hfz17_0 := bF BK202.out 0; have hfz17_1 := bF BK202.out 1; have hfz17_2 := bF BK202.out 2; have hfz17_3 := bF BK202.out 3; have hfz17_4 := bF BK202.out 4))
            go_roundg k1
            case measure => have := HK1.out; omega
            case rel => exact ⟨(wrap64 (x5_1 + 1)), (by first | rfl | (simp; done) | (simp [*]; done)), H', ⟨by have := HK1.out; omega⟩, ⟨bA⟩⟩
           ·rw [if_neg c11] at H
            exact absurd H (by simp)
          ·rw [if_neg c10] at H
           exact absurd H (by simp)
         ·rw [if_neg c9] at H
          exact absurd H (by simp)
        ·rw [if_neg c8] at H
         exact absurd H (by simp)
       ·rw [if_neg c7] at H
        exact absurd H (by simp)
      ·rw [if_neg c6] at H
       exact absurd H (by simp)
     ·rw [if_neg c5] at H
      exact absurd H (by simp)
    ·rw [if_neg c4] at H
     have c4b0 : decide (x5_1 < (l0.length : Int)) = false := decide_eq_false c4
     clear c4
     obtain rfl := Option.some.inj H
     go_wp2
     go_ret
     exact ⟨by first | rfl | (simp [errW_none, errW_some] <;> rfl) | (simp [*, errW_none, errW_some] <;> rfl), bA⟩
 ·rw [if_neg c3] at H
  exact absurd H (by simp)
mutual
def l13_same.j0 : Nat → Bool → Int → List (S44) → ByteArray → Int → List (S46) → ByteArray → Option (Bool)
 | 0, _, _, _, _, _, _, _ => none
 | k + 1, x26, x206000, x206001, x206002, x207000, x207001, x207002 => if x26 = true then (none) else (l13_same.l0 k 0 x206000 x206001 x206002 x207000 x207001 x207002)
def l13_same.l0 : Nat → Int → Int → List (S44) → ByteArray → Int → List (S46) → ByteArray → Option (Bool)
 | 0, _, _, _, _, _, _, _ => none
 | k + 1, x5, x206000, x206001, x206002, x207000, x207001, x207002 => if x5 < (x206001.length : Int) then (if 0 ≤ x5 then (if x5 < (x207001.length : Int) then (if ((rd_T44 x206001 x5).f0) = ((rd_T46 x207001 x5).f0) then ((l13_sameSteps.f k ((rd_T44 x206001 x5).f1) ((rd_T46 x207001 x5).f1)).bind fun t211 => (if t211 = true then (l13_same.l0 k (wrap64 (x5 + 1)) x206000 x206001 x206002 x207000 x207001 x207002) else (none))) else (none)) else (none)) else (none)) else (some true)
end
def l13_same.f (k : Nat) (a0_0 : Int) (l0_1 : List (S44)) (a0_2 : ByteArray) (a1_0 : Int) (l1_1 : List (S46)) (a1_2 : ByteArray) : Option (Bool) := if a0_0 = a1_0 then (if a0_2.toList = a1_2.toList then (l13_same.j0 k ((l0_1.length : Int) != (l1_1.length : Int)) a0_0 l0_1 a0_2 a1_0 l1_1 a1_2) else (none)) else (none)
theorem l13_same.mono_l : ∀ k, (∀ y0 y1 y2 y3 y4 y5 y6, LeO (l13_same.j0 k y0 y1 y2 y3 y4 y5 y6) (l13_same.j0 (k + 1) y0 y1 y2 y3 y4 y5 y6)) ∧ (∀ y0 y1 y2 y3 y4 y5 y6, LeO (l13_same.l0 k y0 y1 y2 y3 y4 y5 y6) (l13_same.l0 (k + 1) y0 y1 y2 y3 y4 y5 y6))
 | 0 => ⟨fun _ _ _ _ _ _ _ r h => by simp [l13_same.j0] at h, fun _ _ _ _ _ _ _ r h => by simp [l13_same.l0] at h⟩
 | k + 1 => by
  obtain ⟨ih0, ih1⟩ := l13_same.mono_l k
  refine ⟨?_, ?_⟩
  ·intro y0 y1 y2 y3 y4 y5 y6
   unfold l13_same.j0
   repeat' first
   | (with_reducible exact ih1 _ _ _ _ _ _ _)
   | (with_reducible exact LeO.refl _)
   | (with_reducible exact LeO.none _)
   | (with_reducible refine LeO.ite ?_ ?_)
   | (with_reducible refine LeO.bind ?_ (fun _ => ?_))
   | exact ih1 _ _ _ _ _ _ _
   | exact LeO.none _
   | refine LeO.ite ?_ ?_
   | refine LeO.bind ?_ (fun _ => ?_)
  ·intro y0 y1 y2 y3 y4 y5 y6
   unfold l13_same.l0
   repeat' first
   | (with_reducible exact ih1 _ _ _ _ _ _ _)
   | (with_reducible exact l13_sameSteps.mono _ _ _)
   | (with_reducible exact LeO.refl _)
   | (with_reducible exact LeO.none _)
   | (with_reducible refine LeO.ite ?_ ?_)
   | (with_reducible refine LeO.bind ?_ (fun _ => ?_))
   | exact ih1 _ _ _ _ _ _ _
   | exact l13_sameSteps.mono _ _ _
   | exact LeO.none _
   | refine LeO.ite ?_ ?_
   | refine LeO.bind ?_ (fun _ => ?_)
theorem l13_same.mono : ∀ a0 a1 a2 a3 a4 a5 k, LeO (l13_same.f k a0 a1 a2 a3 a4 a5) (l13_same.f (k + 1) a0 a1 a2 a3 a4 a5) := by
 intro a0 a1 a2 a3 a4 a5 k
 obtain ⟨ih0, ih1⟩ := l13_same.mono_l k
 unfold l13_same.f
 repeat' first
   | (with_reducible exact ih0 _ _ _ _ _ _ _)
   | (with_reducible exact ih1 _ _ _ _ _ _ _)
   | (with_reducible exact l13_sameSteps.mono _ _ _)
   | (with_reducible exact LeO.refl _)
   | (with_reducible exact LeO.none _)
   | (with_reducible refine LeO.ite ?_ ?_)
   | (with_reducible refine LeO.bind ?_ (fun _ => ?_))
   | exact ih0 _ _ _ _ _ _ _
   | exact ih1 _ _ _ _ _ _ _
   | exact l13_sameSteps.mono _ _ _
   | exact LeO.none _
   | refine LeO.ite ?_ ?_
   | refine LeO.bind ?_ (fun _ => ?_)
def l13_same.T6 : Bool × List (List Nat × List Nat) := (true, [([], []), ([0], [0]), ([], []), ([1, 2], [1, 2]), ([3], [3]), ([4], [4]), ([], []), ([6], [6]), ([], []), ([7, 8], [7, 8]), ([9], [9]), ([10], [10]), ([5, 11], [5, 11]), ([12], [12]), ([13], [13]), ([14, 13], [13, 14]), ([13], [13]), ([15, 16, 13], [13, 15, 16]), ([17, 13], [13, 17]), ([18, 13], [13, 18]), ([13], [13]), ([20, 13], [13, 20]), ([13], [13]), ([21, 22, 13], [13, 21, 22]), ([23, 13], [13, 23]), ([24, 13], [13, 24]), ([19, 25, 13, 13], [13, 19, 25]), ([26, 13], [13, 26]), ([13, 27], [13, 27])])
def l13_same.B6 : List Nat := [0, 1, 0, 7, 15, 31, 0, 64, 0, 448, 960, 1984, 4095, 8191, 16383, 32767, 16383, 131071, 262143, 524287, 16383, 1064959, 16383, 7356415, 15745023, 32522239, 67108863, 134217727, 268435455]
theorem l13_same.tab6 : rtab .any (opsOf Tryd.f41 6) = l13_same.T6 := by kernel_rfl
theorem l13_same.bits6 : waitsOk l13_same.T6.2 l13_same.B6 = true := by kernel_rfl
set_option maxHeartbeats 8000000 in
set_option maxRecDepth 100000 in
theorem l13_same.calls (k : Nat) (a0_0 : Int) (A0_1 : Option Addr) (c0_1 : Nat) (l0_1 : List (S44)) (a0_2 : ByteArray) (a1_0 : Int) (A1_1 : Option Addr) (c1_1 : Nat) (l1_1 : List (S46)) (a1_2 : ByteArray) (r : Bool) (w : World) (hr0_1 : Kd.C k44 w A0_1 l0_1.length l0_1) (hc0_1 : l0_1.length ≤ c0_1) (hr1_1 : Kd.C k46 w A1_1 l1_1.length l1_1) (hc1_1 : l1_1.length ≤ c1_1) (h : l13_same.f k a0_0 l0_1 a0_2 a1_0 l1_1 a1_2 = some r) :
  Calls Tryd.prog 41 #[.agg #[.int .u64 a0_0, .slice A0_1 l0_1.length c0_1, .string a0_2], .agg #[.int .u64 a1_0, .slice A1_1 l1_1.length c1_1, .string a1_2]] w fun e w' => e = .returned (.bool r) ∧ Below w.heap.size w w' := by
 have hu66 := Tryd.underlying66
 have hu68 := Tryd.underlying68
 have HR0_1 := Ax.mk hr0_1
 have HC0_1 := Ax.mk hc0_1
 clear hr0_1 hc0_1
 have HR1_1 := Ax.mk hr1_1
 have HC1_1 := Ax.mk hc1_1
 clear hr1_1 hc1_1
 have HB := Ax.mk (Below.refl w.heap.size w)
 have H : (if a0_0 = a1_0 then (if a0_2.toList = a1_2.toList then (l13_same.j0 k ((l0_1.length : Int) != (l1_1.length : Int)) a0_0 l0_1 a0_2 a1_0 l1_1 a1_2) else (none)) else (none)) = some r := h
 clear h
 have HC3 := Ax.mk H
 clear H
 go_enter Tryd.func41, Tryd.ntmps41
 go_upto_region 1 with (first | ((with_reducible refine gate_dst (N := 2) rfl ?_); (try (refine gate_guard (by rfl) ?_; dsimp only)); refine box_event ?hg (N := 2) ?hd (cs := #[.int .u64 a0_0, .slice A0_1 l0_1.length c0_1, .string a0_2]) (t := 66) ?hr ?_; (case hd => rfl); (case hg => rfl); (case hr => first | (go_simp; done) | (go_simp; rfl)); intro gb205 hg w4 hbox hb; have n0_ := Ax.mk (bP bA hb); have n1_ := Ax.mk (hbox); have n2_ := Ax.mk ((ge_new hg : w.heap.size ≤ gb205)); have n3_ := n2_; clear HB; have HB := n0_; have BK205 := n1_; have GW205 := n2_; have GE205 := n3_; clear n0_ n1_ n2_ n3_; clear hb hbox hg) | ((with_reducible refine gate_dst (N := 3) rfl ?_); (try (refine gate_guard (by rfl) ?_; dsimp only)); refine box_event ?hg (N := 3) ?hd (cs := #[.int .u64 a1_0, .slice A1_1 l1_1.length c1_1, .string a1_2]) (t := 68) ?hr ?_; (case hd => rfl); (case hg => rfl); (case hr => first | (go_simp; done) | (go_simp; rfl)); intro gb206 hg w5 hbox hb; have n0_ := Ax.mk (bB (bT BK205.out) hb); have n1_ := Ax.mk (bP bA hb); have n2_ := Ax.mk (hbox); have n3_ := Ax.mk ((ge_new hg : w.heap.size ≤ gb206)); have n4_ := n3_; have n5_ := Ax.mk ((ne_lt hg BK205.out : gb205 ≠ gb206)); have n6_ := Ax.mk ((ne_gt hg BK205.out : gb206 ≠ gb205)); clear BK205; clear HB; have BK205 := n0_; have HB := n1_; have BK206 := n2_; have GW206 := n3_; have GE206 := n4_; have NB205_206 := n5_; have NB206_205 := n6_; clear n0_ n1_ n2_ n3_ n4_ n5_ n6_; clear hb hbox hg))
 (try simp only [Act.put, sI, sZ, sS])
 go_cut [26] (fun v26 wc => ∃ (kq : Nat) (x26_2 : Bool), v26 = .bool x26_2 ∧ Ax (l13_same.j0 kq x26_2 a0_0 l0_1 a0_2 a1_0 l1_1 a1_2 = some r) ∧ Ax (kq ≤ k) ∧ Ax (wc.heap[gb205]? = some (.cells #[.int .u64 a0_0, (.slice A0_1 l0_1.length c0_1), .string a0_2] 66 (0, 0))) ∧ Ax (wc.heap[gb206]? = some (.cells #[.int .u64 a1_0, (.slice A1_1 l1_1.length c1_1), .string a1_2] 68 (0, 0))) ∧ Ax (Below w.heap.size w wc))
 case first =>
  have H := HC3.out
  clear HC3
  by_cases c6 : a0_0 = a1_0
  ·rw [if_pos c6] at H
   have c6b0 : (a0_0 == a1_0) = true := beq_iff_eq.mpr c6
   have c6b1 : (a0_0 != a1_0) = false := bne_eq_false_iff_eq.mpr c6
   clear c6
   (first | rw [c6b0] | (simp only [i64_w, i32_w]; rw [c6b0]) | skip)
   by_cases c7 : a0_2.toList = a1_2.toList
   ·rw [if_pos c7] at H
    have c7b0 : (a0_2.toList == a1_2.toList) = true := beq_iff_eq.mpr c7
    have c7b1 : (a0_2.toList != a1_2.toList) = false := bne_eq_false_iff_eq.mpr c7
    clear c7
    have H' := Ax.mk H
    clear H
    have hnb8 := NB205_206.out
    have hnc8 := NB206_205.out
    have hcz9_0 : w5.cell? ⟨gb205, 0, none⟩ = some (.int .u64 a0_0) := (bC BK205.out 0).trans rfl
    have hcz9_1 : w5.cell? ⟨gb205, 1, none⟩ = some (.slice A0_1 l0_1.length c0_1) := (bC BK205.out 1).trans rfl
    have hcz9_2 : w5.cell? ⟨gb205, 2, none⟩ = some (.string a0_2) := (bC BK205.out 2).trans rfl
    have hfz9_0 := bF BK205.out 0
    have hfz9_1 := bF BK205.out 1
    have hfz9_2 := bF BK205.out 2
    have hcz10_0 : w5.cell? ⟨gb206, 0, none⟩ = some (.int .u64 a1_0) := (bC BK206.out 0).trans rfl
    have hcz10_1 : w5.cell? ⟨gb206, 1, none⟩ = some (.slice A1_1 l1_1.length c1_1) := (bC BK206.out 1).trans rfl
    have hcz10_2 : w5.cell? ⟨gb206, 2, none⟩ = some (.string a1_2) := (bC BK206.out 2).trans rfl
    have hfz10_0 := bF BK206.out 0
    have hfz10_1 := bF BK206.out 1
    have hfz10_2 := bF BK206.out 2
    go_wp2
    go_meet
    case rel => exact ⟨_, (((l0_1.length : Int) != (l1_1.length : Int))), (by first | rfl | (simp; done) | (simp [*]; done)), H', ⟨by first | omega | exact Nat.le_refl _⟩, ⟨by refine bT ?_; exact BK205.out⟩, ⟨by refine bT ?_; exact BK206.out⟩, ⟨bA⟩⟩
   ·rw [if_neg c7] at H
    exact absurd H (by simp)
  ·rw [if_neg c6] at H
   exact absurd H (by simp)
 case rest =>
  clear HC3
  try clear c1
  try clear p2
  try clear c4
  try clear c6
  try clear c6b0
  try clear c6b1
  try clear c7
  try clear c7b0
  try clear c7b1
  try clear c8
  try clear hcz10_0
  try clear hcz10_1
  try clear hcz10_2
  try clear hcz9_0
  try clear hcz9_1
  try clear hcz9_2
  try clear hfz10_0
  try clear hfz10_1
  try clear hfz10_2
  try clear hfz9_0
  try clear hfz9_1
  try clear hfz9_2
  obtain ⟨kq, x26_2, rfl, HA, HJ2, BK205, BK206, HB⟩ := hcut
  cases kq with
  | zero => exact absurd HA.out (by simp [l13_same.j0])
  | succ kj2 =>
   have H := HA.out
   clear HA
   simp only [l13_same.j0] at H
   by_cases c11 : x26_2 = true
   ·subst c11
    have H1 : (none) = some r := by rw [if_pos rfl] at H; exact H
    clear H
    have H := H1
    clear H1
    exact absurd H (by simp)
   ·replace c11 := Bool.eq_false_iff.mpr c11
    subst c11
    have H1 : (l13_same.l0 kj2 0 a0_0 l0_1 a0_2 a1_0 l1_1 a1_2) = some r := by rw [if_neg (show ¬ (false = true) by decide)] at H; exact H
    clear H
    have H := H1
    clear H1
    have H' := Ax.mk H
    clear H
    go_wp2
    go_loopg [5] kj2 (fun kq v5 w' => ∃ (x5_2 : Int), v5 = .int .i64 x5_2 ∧ Ax (l13_same.l0 kq x5_2 a0_0 l0_1 a0_2 a1_0 l1_1 a1_2 = some r) ∧ Ax (kq ≤ kj2) ∧ Ax (w'.heap[gb205]? = some (.cells #[.int .u64 a0_0, (.slice A0_1 l0_1.length c0_1), .string a0_2] 66 (0, 0))) ∧ Ax (w'.heap[gb206]? = some (.cells #[.int .u64 a1_0, (.slice A1_1 l1_1.length c1_1), .string a1_2] 68 (0, 0))) ∧ Ax (Below w.heap.size w w'))
    case atStart => exact ⟨(0), (by first | rfl | (simp; done) | (simp [*]; done)), H', ⟨Nat.le_refl _⟩, ⟨by refine bT ?_; exact BK205.out⟩, ⟨by refine bT ?_; exact BK206.out⟩, ⟨bA⟩⟩
    case round =>
     clear H'
     try clear c1
     try clear p2
     try clear c4
     try clear c6
     try clear c6b0
     try clear c6b1
     try clear c7
     try clear c7b0
     try clear c7b1
     try clear c8
     try clear c11
     try clear hcz10_0
     try clear hcz10_1
     try clear hcz10_2
     try clear hcz9_0
     try clear hcz9_1
     try clear hcz9_2
     try clear hfz10_0
     try clear hfz10_1
     try clear hfz10_2
     try clear hfz9_0
     try clear hfz9_1
     try clear hfz9_2
     try clear p2
     obtain ⟨x5_2, rfl, HA, HK2, BK205, BK206, HB⟩ := hrel
     cases gk with
     | zero => exact absurd HA.out (by simp [l13_same.l0])
     | succ k2 =>
      have H := HA.out
      clear HA
      simp only [l13_same.l0] at H
      by_cases c12 : x5_2 < (l0_1.length : Int)
      ·rw [if_pos c12] at H
       have c12b0 : decide (x5_2 < (l0_1.length : Int)) = true := decide_eq_true c12
       clear c12
       by_cases c13 : 0 ≤ x5_2
       ·rw [if_pos c13] at H
        have c13b0 : decide (0 ≤ x5_2) = true := decide_eq_true c13
        clear c13
        by_cases c14 : x5_2 < (l1_1.length : Int)
        ·rw [if_pos c14] at H
         have c14b0 : decide (x5_2 < (l1_1.length : Int)) = true := decide_eq_true c14
         clear c14
         by_cases c15 : ((rd_T44 l0_1 x5_2).f0) = ((rd_T46 l1_1 x5_2).f0)
         ·rw [if_pos c15] at H
          have c15b0 : (((rd_T44 l0_1 x5_2).f0) == ((rd_T46 l1_1 x5_2).f0)) = true := beq_iff_eq.mpr c15
          have c15b1 : (((rd_T44 l0_1 x5_2).f0) != ((rd_T46 l1_1 x5_2).f0)) = false := bne_eq_false_iff_eq.mpr c15
          clear c15
          replace H := Option.bind_eq_some_iff.mp H
          obtain ⟨t211, A160, H⟩ := H
          replace H : (if t211 = true then (l13_same.l0 k2 (wrap64 (x5_2 + 1)) a0_0 l0_1 a0_2 a1_0 l1_1 a1_2) else (none)) = some r := H
          have A16 := Ax.mk A160
          clear A160
          by_cases c17 : t211 = true
          ·subst c17
           have H1 : (l13_same.l0 k2 (wrap64 (x5_2 + 1)) a0_0 l0_1 a0_2 a1_0 l1_1 a1_2) = some r := by rw [if_pos rfl] at H; exact H
           clear H
           have H := H1
           clear H1
           have H' := Ax.mk H
           clear H
           have hnb18 := NB205_206.out
           have hnc18 := NB206_205.out
           have hcz19_0 : wr.cell? ⟨gb205, 0, none⟩ = some (.int .u64 a0_0) := (bC BK205.out 0).trans rfl
           have hcz19_1 : wr.cell? ⟨gb205, 1, none⟩ = some (.slice A0_1 l0_1.length c0_1) := (bC BK205.out 1).trans rfl
           have hcz19_2 : wr.cell? ⟨gb205, 2, none⟩ = some (.string a0_2) := (bC BK205.out 2).trans rfl
           have hfz19_0 := bF BK205.out 0
           have hfz19_1 := bF BK205.out 1
           have hfz19_2 := bF BK205.out 2
           try go_wp2
           have n0_ := Ax.mk (blk_drew BK205.out)
           have n1_ := Ax.mk (blk_drew BK206.out)
           have n2_ := Ax.mk (below_drew1 HB.out)
           clear BK205
           clear BK206
           clear HB
           have BK205 := n0_
           have BK206 := n1_
           have HB := n2_
           clear n0_ n1_ n2_
           have p207 : 0 ≤ (x5_2 : Int) := ofD
           have q207 : x5_2 < (l0_1.length : Int) := ofD
           obtain ⟨ad207, A207_1, c207_1, e207, hx207_0, hx207_1, hl207_1, hi207_1⟩ := at_T44 HR0_1.out x5_2 p207 q207
           have hw207_1 := hx207_1
           have hw207_0 := hx207_0
           cases e207
           replace hx207_0 := (HB.out.cell (World.block_lt_of_cell? w _ hx207_0)).trans hx207_0
           replace hx207_1 := (HB.out.cell (World.block_lt_of_cell? w _ hx207_1)).trans hx207_1
           have HR207_1 := Ax.mk hi207_1
           have HC207_1 := Ax.mk hl207_1
           clear hi207_1 hl207_1
           replace p207 := eq_true p207
           replace q207 := eq_true q207
           have p208 : 0 ≤ (x5_2 : Int) := ofD
           have q208 : x5_2 < (l1_1.length : Int) := ofD
           obtain ⟨ad208, A208_1, c208_1, e208, hx208_0, hx208_1, hl208_1, hi208_1⟩ := at_T46 HR1_1.out x5_2 p208 q208
           have hw208_1 := hx208_1
           have hw208_0 := hx208_0
           cases e208
           replace hx208_0 := (HB.out.cell (World.block_lt_of_cell? w _ hx208_0)).trans hx208_0
           replace hx208_1 := (HB.out.cell (World.block_lt_of_cell? w _ hx208_1)).trans hx208_1
           have HR208_1 := Ax.mk hi208_1
           have HC208_1 := Ax.mk hl208_1
           clear hi208_1 hl208_1
           replace p208 := eq_true p208
           replace q208 := eq_true q208
           have p209 : 0 ≤ (x5_2 : Int) := ofD
           have q209 : x5_2 < (l0_1.length : Int) := ofD
           obtain ⟨ad209, A209_1, c209_1, e209, hx209_0, hx209_1, hl209_1, hi209_1⟩ := at_T44 HR0_1.out x5_2 p209 q209
           have hw209_1 := hx209_1
           have hw209_0 := hx209_0
           obtain rfl : ad207 = ad209 := (by injection e209)
           replace hx209_0 := (HB.out.cell (World.block_lt_of_cell? w _ hx209_0)).trans hx209_0
           replace hx209_1 := (HB.out.cell (World.block_lt_of_cell? w _ hx209_1)).trans hx209_1
           have HR209_1 := Ax.mk hi209_1
           have HC209_1 := Ax.mk hl209_1
           clear hi209_1 hl209_1
           replace p209 := eq_true p209
           replace q209 := eq_true q209
           have ea_ := Option.some.inj (hx207_1.symm.trans hx209_1)
           injection ea_ with ea_ en_ ec_
           subst ea_
           subst ec_
           clear en_
           have p210 : 0 ≤ (x5_2 : Int) := ofD
           have q210 : x5_2 < (l1_1.length : Int) := ofD
           obtain ⟨ad210, A210_1, c210_1, e210, hx210_0, hx210_1, hl210_1, hi210_1⟩ := at_T46 HR1_1.out x5_2 p210 q210
           have hw210_1 := hx210_1
           have hw210_0 := hx210_0
           obtain rfl : ad208 = ad210 := (by injection e210)
           replace hx210_0 := (HB.out.cell (World.block_lt_of_cell? w _ hx210_0)).trans hx210_0
           replace hx210_1 := (HB.out.cell (World.block_lt_of_cell? w _ hx210_1)).trans hx210_1
           have HR210_1 := Ax.mk hi210_1
           have HC210_1 := Ax.mk hl210_1
           clear hi210_1 hl210_1
           replace p210 := eq_true p210
           replace q210 := eq_true q210
           have ea_ := Option.some.inj (hx208_1.symm.trans hx210_1)
           injection ea_ with ea_ en_ ec_
           subst ea_
           subst ec_
           clear en_
           refine start_ (n := 29) (S := fun w' => w'.cell? ⟨gb205, 0, none⟩ = some (.int .u64 a0_0) ∧ w'.cell? ⟨gb205, 1, none⟩ = some (.slice (some ad207) l0_1.length c0_1) ∧ w'.cell? ⟨gb205, 2, none⟩ = some (.string a0_2) ∧ w'.cell? ⟨gb206, 0, none⟩ = some (.int .u64 a1_0) ∧ w'.cell? ⟨gb206, 1, none⟩ = some (.slice (some ad208) l1_1.length c1_1) ∧ w'.cell? ⟨gb206, 2, none⟩ = some (.string a1_2) ∧ w'.cell? (ad207.add ((x5_2).toNat * 2)) = some (.int .u64 ((rd_T44 l0_1 x5_2).f0)) ∧ w'.cell? ⟨(ad207.add ((x5_2).toNat * 2)).block, (ad207.add ((x5_2).toNat * 2)).off + 1, none⟩ = some (.slice A207_1 ((rd_T44 l0_1 x5_2).f1).length c207_1) ∧ w'.cell? (ad208.add ((x5_2).toNat * 2)) = some (.int .u64 ((rd_T46 l1_1 x5_2).f0)) ∧ w'.cell? ⟨(ad208.add ((x5_2).toNat * 2)).block, (ad208.add ((x5_2).toNat * 2)).off + 1, none⟩ = some (.slice A208_1 ((rd_T46 l1_1 x5_2).f1).length c208_1) ∧ w'.cell? (ad207.add ((x5_2).toNat * 2)) = some (.int .u64 ((rd_T44 l0_1 x5_2).f0)) ∧ w'.cell? ⟨(ad207.add ((x5_2).toNat * 2)).block, (ad207.add ((x5_2).toNat * 2)).off + 1, none⟩ = some (.slice A207_1 ((rd_T44 l0_1 x5_2).f1).length c207_1) ∧ w'.cell? (ad208.add ((x5_2).toNat * 2)) = some (.int .u64 ((rd_T46 l1_1 x5_2).f0)) ∧ w'.cell? ⟨(ad208.add ((x5_2).toNat * 2)).block, (ad208.add ((x5_2).toNat * 2)).off + 1, none⟩ = some (.slice A208_1 ((rd_T46 l1_1 x5_2).f1).length c208_1)) (ds := []) (TF 0 29) (by kernel_rfl) rfl rfl ⟨(bC BK205.out 0).trans rfl, (bC BK205.out 1).trans rfl, (bC BK205.out 2).trans rfl, (bC BK206.out 0).trans rfl, (bC BK206.out 1).trans rfl, (bC BK206.out 2).trans rfl, ((HB.out.cell (World.block_lt_of_cell? w _ hw207_0)).trans hw207_0), ((HB.out.cell (World.block_lt_of_cell? w _ hw207_1)).trans hw207_1), ((HB.out.cell (World.block_lt_of_cell? w _ hw208_0)).trans hw208_0), ((HB.out.cell (World.block_lt_of_cell? w _ hw208_1)).trans hw208_1), ((HB.out.cell (World.block_lt_of_cell? w _ hw209_0)).trans hw209_0), ((HB.out.cell (World.block_lt_of_cell? w _ hw209_1)).trans hw209_1), ((HB.out.cell (World.block_lt_of_cell? w _ hw210_0)).trans hw210_0), ((HB.out.cell (World.block_lt_of_cell? w _ hw210_1)).trans hw210_1)⟩ (fun hHeld => ?_); refine with_tabW l13_same.tab6 l13_same.bits6 (fun HT_ HW_ => ?_)
           generalize wr.drew = w20 at BK205 BK206 HB HR207_1 HR208_1 HR209_1 HR210_1 hx207_0 hx207_1 hx208_0 hx208_1 hx209_0 hx209_1 hx210_0 hx210_1 hHeld ⊢
           refine pure_ (i := 0) (N := some 34) (v := ?_) (a' := ?_) (TF 1 28) rfl rfl (any_of HT_.out (by kernel_rfl)) (fun _ _ _ h => h) (Or.inl ⟨by rfl, ?_⟩) ?_ ?_
           rotate_left; · intro w'; go_simp; with_reducible rfl
           rotate_left; · simp only [Act.put, sI, sZ, sS, i64_w, i32_w]; rfl
           refine pure_ (i := 2) (N := some 36) (v := ?_) (a' := ?_) (BT 29 5) rfl rfl (any_of HT_.out (by kernel_rfl)) (fun _ _ _ h => h) (Or.inl ⟨by rfl, ?_⟩) ?_ ?_
           rotate_left; · intro w'; go_simp; with_reducible rfl
           rotate_left; · simp only [Act.put, sI, sZ, sS, i64_w, i32_w]; rfl
           refine pure_ (i := 6) (N := some 40) (v := ?_) (a' := ?_) (BT 29 69) rfl rfl (any_of HT_.out (by kernel_rfl)) (fun _ _ _ h => h) (Or.inl ⟨by rfl, ?_⟩) ?_ ?_
           rotate_left; · intro w'; go_simp; with_reducible rfl
           rotate_left; · simp only [Act.put, sI, sZ, sS, i64_w, i32_w]; rfl
           refine pure_ (i := 8) (N := some 42) (v := ?_) (a' := ?_) (BT 29 325) rfl rfl (any_of HT_.out (by kernel_rfl)) (fun _ _ _ h => h) (Or.inl ⟨by rfl, ?_⟩) ?_ ?_
           rotate_left; · intro w'; go_simp; with_reducible rfl
           rotate_left; · simp only [Act.put, sI, sZ, sS, i64_w, i32_w]; rfl
           refine take_ (i := 1) (N := some 35) (v := ?_) (a' := ?_) (BT 29 327) rfl rfl (take_ofW HT_.out HW_.out (by kernel_rfl)) (fun _ _ _ h => h) (Or.inl ⟨by rfl, ?_⟩) hHeld ?_ ?_
           rotate_left
           ·rintro w' ⟨s0, s1, s2, s3, s4, s5, s6, s7, s8, s9, s10, s11, s12, s13⟩
            go_simp
            with_reducible rfl
           rotate_left
           ·simp only [Act.put, sI, sZ, sS, i64_w, i32_w]
            rfl
           refine pure_ (i := 3) (N := some 37) (v := ?_) (a' := ?_) (BT 29 335) rfl rfl (any_of HT_.out (by kernel_rfl)) (fun _ _ _ h => h) (Or.inl ⟨by rfl, ?_⟩) ?_ ?_
           rotate_left; · intro w'; go_simp; with_reducible rfl
           rotate_left; · simp only [Act.put, sI, sZ, sS, i64_w, i32_w]; rfl
           refine pure_ (i := 4) (N := some 38) (v := ?_) (a' := ?_) (BT 29 351) rfl rfl (any_of HT_.out (by kernel_rfl)) (fun _ _ _ h => h) (Or.inl ⟨by rfl, ?_⟩) ?_ ?_
           rotate_left; · intro w'; go_simp; with_reducible rfl
           rotate_left; · simp only [Act.put, sI, sZ, sS, i64_w, i32_w]; rfl
           refine take_ (i := 5) (N := some 39) (v := ?_) (a' := ?_) (BT 29 383) rfl rfl (take_ofW HT_.out HW_.out (by kernel_rfl)) (fun _ _ _ h => h) (Or.inl ⟨by rfl, ?_⟩) hHeld ?_ ?_
           rotate_left
           ·rintro w' ⟨s0, s1, s2, s3, s4, s5, s6, s7, s8, s9, s10, s11, s12, s13⟩
            go_simp
            with_reducible rfl
           rotate_left
           ·simp only [Act.put, sI, sZ, sS, i64_w, i32_w]
            rfl
           refine take_ (i := 7) (N := some 41) (v := ?_) (a' := ?_) (TF 9 20) rfl rfl (take_ofW HT_.out HW_.out (by kernel_rfl)) (fun _ _ _ h => h) (Or.inl ⟨by rfl, ?_⟩) hHeld ?_ ?_
           rotate_left
           ·rintro w' ⟨s0, s1, s2, s3, s4, s5, s6, s7, s8, s9, s10, s11, s12, s13⟩
            go_simp
            with_reducible rfl
           rotate_left
           ·simp only [Act.put, sI, sZ, sS, i64_w, i32_w]
            rfl
           refine pure_ (i := 9) (N := some 43) (v := ?_) (a' := ?_) (TF 10 19) rfl rfl (any_of HT_.out (by kernel_rfl)) (fun _ _ _ h => h) (Or.inl ⟨by rfl, ?_⟩) ?_ ?_
           rotate_left; · intro w'; go_simp; with_reducible rfl
           rotate_left; · simp only [Act.put, sI, sZ, sS, i64_w, i32_w]; rfl
           refine pure_ (i := 10) (N := some 44) (v := ?_) (a' := ?_) (TF 11 18) rfl rfl (any_of HT_.out (by kernel_rfl)) (fun _ _ _ h => h) (Or.inl ⟨by rfl, ?_⟩) ?_ ?_
           rotate_left; · intro w'; go_simp; with_reducible rfl
           rotate_left; · simp only [Act.put, sI, sZ, sS, i64_w, i32_w]; rfl
           refine take_ (i := 11) (N := some 45) (v := ?_) (a' := ?_) (TF 12 17) rfl rfl (take_ofW HT_.out HW_.out (by kernel_rfl)) (fun _ _ _ h => h) (Or.inl ⟨by rfl, ?_⟩) hHeld ?_ ?_
           rotate_left
           ·rintro w' ⟨s0, s1, s2, s3, s4, s5, s6, s7, s8, s9, s10, s11, s12, s13⟩
            go_simp
            with_reducible rfl
           rotate_left
           ·simp only [Act.put, sI, sZ, sS, i64_w, i32_w]
            rfl
           refine pure_ (i := 12) (N := some 46) (v := ?_) (a' := ?_) (TF 13 16) rfl rfl (any_of HT_.out (by kernel_rfl)) (fun _ _ _ h => h) (Or.inl ⟨by rfl, ?_⟩) ?_ ?_
           rotate_left; · intro w'; go_simp; with_reducible rfl
           rotate_left; · simp only [Act.put, sI, sZ, sS, i64_w, i32_w]; rfl
           refine pure_ (i := 13) (N := some 47) (v := ?_) (a' := ?_) (TF 14 15) rfl rfl (any_of HT_.out (by kernel_rfl)) (fun _ _ _ h => h) (Or.inl ⟨by rfl, ?_⟩) ?_ ?_
           rotate_left; · intro w'; go_simp; with_reducible rfl
           rotate_left; · simp only [Act.put, sI, sZ, sS, i64_w, i32_w]; rfl
           refine pure_ (i := 14) (N := some 48) (v := ?_) (a' := ?_) (TF 15 14) rfl rfl (any_of HT_.out (by kernel_rfl)) (fun _ _ _ h => h) (Or.inl ⟨by rfl, ?_⟩) ?_ ?_
           rotate_left; · intro w'; go_simp; with_reducible rfl
           rotate_left; · simp only [Act.put, sI, sZ, sS, i64_w, i32_w]; rfl
           refine pure_ (i := 16) (N := some 50) (v := ?_) (a' := ?_) (BT 29 98303) rfl rfl (any_of HT_.out (by kernel_rfl)) (fun _ _ _ h => h) (Or.inl ⟨by rfl, ?_⟩) ?_ ?_
           rotate_left; · intro w'; go_simp; with_reducible rfl
           rotate_left; · simp only [Act.put, sI, sZ, sS, i64_w, i32_w]; rfl
           refine pure_ (i := 20) (N := some 54) (v := ?_) (a' := ?_) (BT 29 1146879) rfl rfl (any_of HT_.out (by kernel_rfl)) (fun _ _ _ h => h) (Or.inl ⟨by rfl, ?_⟩) ?_ ?_
           rotate_left; · intro w'; go_simp; with_reducible rfl
           rotate_left; · simp only [Act.put, sI, sZ, sS, i64_w, i32_w]; rfl
           refine pure_ (i := 22) (N := some 56) (v := ?_) (a' := ?_) (BT 29 5341183) rfl rfl (any_of HT_.out (by kernel_rfl)) (fun _ _ _ h => h) (Or.inl ⟨by rfl, ?_⟩) ?_ ?_
           rotate_left; · intro w'; go_simp; with_reducible rfl
           rotate_left; · simp only [Act.put, sI, sZ, sS, i64_w, i32_w]; rfl
           refine take_ (i := 15) (N := some 49) (v := ?_) (a' := ?_) (BT 29 5373951) rfl rfl (take_ofW HT_.out HW_.out (by kernel_rfl)) (fun _ _ _ h => h) (Or.inl ⟨by rfl, ?_⟩) hHeld ?_ ?_
           rotate_left
           ·rintro w' ⟨s0, s1, s2, s3, s4, s5, s6, s7, s8, s9, s10, s11, s12, s13⟩
            go_simp
            with_reducible rfl
           rotate_left
           ·simp only [Act.put, sI, sZ, sS, i64_w, i32_w]
            rfl
           refine pure_ (i := 17) (N := some 51) (v := ?_) (a' := ?_) (BT 29 5505023) rfl rfl (any_of HT_.out (by kernel_rfl)) (fun _ _ _ h => h) (Or.inl ⟨by rfl, ?_⟩) ?_ ?_
           rotate_left; · intro w'; go_simp; with_reducible rfl
           rotate_left; · simp only [Act.put, sI, sZ, sS, i64_w, i32_w]; rfl
           refine pure_ (i := 18) (N := some 52) (v := ?_) (a' := ?_) (BT 29 5767167) rfl rfl (any_of HT_.out (by kernel_rfl)) (fun _ _ _ h => h) (Or.inl ⟨by rfl, ?_⟩) ?_ ?_
           rotate_left; · intro w'; go_simp; with_reducible rfl
           rotate_left; · simp only [Act.put, sI, sZ, sS, i64_w, i32_w]; rfl
           refine take_ (i := 19) (N := some 53) (v := ?_) (a' := ?_) (BT 29 6291455) rfl rfl (take_ofW HT_.out HW_.out (by kernel_rfl)) (fun _ _ _ h => h) (Or.inl ⟨by rfl, ?_⟩) hHeld ?_ ?_
           rotate_left
           ·rintro w' ⟨s0, s1, s2, s3, s4, s5, s6, s7, s8, s9, s10, s11, s12, s13⟩
            go_simp
            with_reducible rfl
           rotate_left
           ·simp only [Act.put, sI, sZ, sS, i64_w, i32_w]
            rfl
           refine take_ (i := 21) (N := some 55) (v := ?_) (a' := ?_) (TF 23 6) rfl rfl (take_ofW HT_.out HW_.out (by kernel_rfl)) (fun _ _ _ h => h) (Or.inl ⟨by rfl, ?_⟩) hHeld ?_ ?_
           rotate_left
           ·rintro w' ⟨s0, s1, s2, s3, s4, s5, s6, s7, s8, s9, s10, s11, s12, s13⟩
            go_simp
            with_reducible rfl
           rotate_left
           ·simp only [Act.put, sI, sZ, sS, i64_w, i32_w]
            rfl
           refine pure_ (i := 23) (N := some 57) (v := ?_) (a' := ?_) (TF 24 5) rfl rfl (any_of HT_.out (by kernel_rfl)) (fun _ _ _ h => h) (Or.inl ⟨by rfl, ?_⟩) ?_ ?_
           rotate_left; · intro w'; go_simp; with_reducible rfl
           rotate_left; · simp only [Act.put, sI, sZ, sS, i64_w, i32_w]; rfl
           refine pure_ (i := 24) (N := some 58) (v := ?_) (a' := ?_) (TF 25 4) rfl rfl (any_of HT_.out (by kernel_rfl)) (fun _ _ _ h => h) (Or.inl ⟨by rfl, ?_⟩) ?_ ?_
           rotate_left; · intro w'; go_simp; with_reducible rfl
           rotate_left; · simp only [Act.put, sI, sZ, sS, i64_w, i32_w]; rfl
           refine take_ (i := 25) (N := some 59) (v := ?_) (a' := ?_) (TF 26 3) rfl rfl (take_ofW HT_.out HW_.out (by kernel_rfl)) (fun _ _ _ h => h) (Or.inl ⟨by rfl, ?_⟩) hHeld ?_ ?_
           rotate_left
           ·rintro w' ⟨s0, s1, s2, s3, s4, s5, s6, s7, s8, s9, s10, s11, s12, s13⟩
            go_simp
            with_reducible rfl
           rotate_left
           ·simp only [Act.put, sI, sZ, sS, i64_w, i32_w]
            rfl
           refine one_ (i := 26) (N := some 60) (TF 27 2) rfl rfl (one_of HT_.out (by kernel_rfl)) (by decide) (fun K hK => ?_)
           refine goes_ Tryd.func35 (by kernel_rfl) rfl #[.slice A207_1 ((rd_T44 l0_1 x5_2).f1).length c207_1, .slice A208_1 ((rd_T46 l1_1 x5_2).f1).length c208_1] (by rfl) rfl rfl (by (try simp only [List.map_toArray, List.map_cons, List.map_nil]); first | done | rfl | (simp only [List.length_drop, List.length_take]; rfl) | (rw [wrap_sum2 (by assumption)]; rfl)) ?_
           with_reducible refine (l13_sameSteps.calls k2 _ _ ((rd_T44 l0_1 x5_2).f1) _ _ ((rd_T46 l1_1 x5_2).f1) true _ ?side1 ?side2 ?side3 ?side4 A16.out).mono ?_
           (case side1 => repeat (first | exact (Kd.C_below HR209_1.out HB.out) | (with_reducible refine Kd.C_alloc ?_ _) | (with_reducible refine Kd.C_drewN ?_ _) | (with_reducible refine Kd.C_drew ?_)))
           (case side2 => exact HC209_1.out)
           (case side3 => repeat (first | exact (Kd.C_below HR210_1.out HB.out) | (with_reducible refine Kd.C_alloc ?_ _) | (with_reducible refine Kd.C_drewN ?_ _) | (with_reducible refine Kd.C_drew ?_)))
           (case side4 => exact HC210_1.out)
           rintro e w21 ⟨rfl, hb⟩
           refine ⟨_, rfl, ?_⟩
           have n0_ := Ax.mk (bB (bT BK205.out) hb)
           have n1_ := Ax.mk (bB (bT BK206.out) hb)
           have n2_ := Ax.mk (bP bA hb)
           clear BK205
           clear BK206
           clear HB
           have BK205 := n0_
           have BK206 := n1_
           have HB := n2_
           clear n0_ n1_ n2_
           (try clear hb)
           (try clear hb2)
           (try clear hk)
           (try clear hi)
           refine hK.out _ _ ⟨(bC BK205.out 0).trans rfl, (bC BK205.out 1).trans rfl, (bC BK205.out 2).trans rfl, (bC BK206.out 0).trans rfl, (bC BK206.out 1).trans rfl, (bC BK206.out 2).trans rfl, ((HB.out.cell (World.block_lt_of_cell? w _ hw207_0)).trans hw207_0), ((HB.out.cell (World.block_lt_of_cell? w _ hw207_1)).trans hw207_1), ((HB.out.cell (World.block_lt_of_cell? w _ hw208_0)).trans hw208_0), ((HB.out.cell (World.block_lt_of_cell? w _ hw208_1)).trans hw208_1), ((HB.out.cell (World.block_lt_of_cell? w _ hw209_0)).trans hw209_0), ((HB.out.cell (World.block_lt_of_cell? w _ hw209_1)).trans hw209_1), ((HB.out.cell (World.block_lt_of_cell? w _ hw210_0)).trans hw210_0), ((HB.out.cell (World.block_lt_of_cell? w _ hw210_1)).trans hw210_1)⟩ (fun hHeld => ?_)
           clear hK K
           refine norm_ (a' := ?_) ?_ ?_
           rotate_left
           ·show Act.put _ (some 60) _ = _
            simp only [Act.put, sI, sZ, sS, i64_w, i32_w]
            rfl
           refine pure_ (i := 27) (N := some 61) (v := ?_) (a' := ?_) (TF 28 1) rfl rfl (any_of HT_.out (by kernel_rfl)) (fun _ _ _ h => h) (Or.inl ⟨by rfl, ?_⟩) ?_ ?_
           rotate_left; · intro w'; go_simp; with_reducible rfl
           rotate_left; · simp only [Act.put, sI, sZ, sS, i64_w, i32_w]; rfl
           refine pure_ (i := 28) (N := some 62) (v := ?_) (a' := ?_) (TF 29 0) rfl rfl (any_of HT_.out (by kernel_rfl)) (fun _ _ _ h => h) (Or.inl ⟨by rfl, ?_⟩) ?_ ?_
           rotate_left; · intro w'; go_simp; with_reducible rfl
           rotate_left; · simp only [Act.put, sI, sZ, sS, i64_w, i32_w]; rfl
           refine done_ (done_of HT_.out (by kernel_rfl)) ?_
           try go_wp2
           go_roundg k2
           case measure => have := HJ2.out; have := HK2.out; omega
           case rel => exact ⟨(wrap64 (x5_2 + 1)), (by first | rfl | (simp; done) | (simp [*]; done)), H', ⟨by have := HJ2.out; have := HK2.out; omega⟩, ⟨by refine bT ?_; exact BK205.out⟩, ⟨by refine bT ?_; exact BK206.out⟩, ⟨bA⟩⟩
          ·replace c17 := Bool.eq_false_iff.mpr c17
           subst c17
           have H1 : (none) = some r := by rw [if_neg (show ¬ (false = true) by decide)] at H; exact H
           clear H
           have H := H1
           clear H1
           exact absurd H (by simp)
         ·rw [if_neg c15] at H
          have c15b0 : (((rd_T44 l0_1 x5_2).f0) == ((rd_T46 l1_1 x5_2).f0)) = false := beq_eq_false_iff_ne.mpr c15
          have c15b1 : (((rd_T44 l0_1 x5_2).f0) != ((rd_T46 l1_1 x5_2).f0)) = true := bne_iff_ne.mpr c15
          exact absurd H (by simp)
        ·rw [if_neg c14] at H
         exact absurd H (by simp)
       ·rw [if_neg c13] at H
        exact absurd H (by simp)
      ·rw [if_neg c12] at H
       have c12b0 : decide (x5_2 < (l0_1.length : Int)) = false := decide_eq_false c12
       clear c12
       obtain rfl := Option.some.inj H
       have hnb22 := NB205_206.out
       have hnc22 := NB206_205.out
       have hcz23_0 : wr.cell? ⟨gb205, 0, none⟩ = some (.int .u64 a0_0) := (bC BK205.out 0).trans rfl
       have hcz23_1 : wr.cell? ⟨gb205, 1, none⟩ = some (.slice A0_1 l0_1.length c0_1) := (bC BK205.out 1).trans rfl
       have hcz23_2 : wr.cell? ⟨gb205, 2, none⟩ = some (.string a0_2) := (bC BK205.out 2).trans rfl
       have hfz23_0 := bF BK205.out 0
       have hfz23_1 := bF BK205.out 1
       have hfz23_2 := bF BK205.out 2
       go_wp2
       go_ret
       exact ⟨by first | rfl | (simp [errW_none, errW_some] <;> rfl) | (simp [*, errW_none, errW_some] <;> rfl), bA⟩
def seal_Take.f (a0 : ByteArray) : Option (ByteArray × Int) := if (wrap64 ((a0.size : Int) - 4)) < 0 then (some ((⟨#[]⟩ : ByteArray), 10)) else (if 0 ≤ (wrap64 ((a0.size : Int) - 4)) then (if (wrap64 ((a0.size : Int) - 4)) ≤ (a0.size : Int) then ((le_Get.f (a0.extract ((wrap64 ((a0.size : Int) - 4)) : Int).toNat a0.size)).bind fun t220 => ((seal_Sum.f (a0.extract 0 ((wrap64 ((a0.size : Int) - 4)) : Int).toNat)).bind fun t221 => (if t220 = (IntKind.u64.wrap (t221)) then (some (a0.extract 0 ((wrap64 ((a0.size : Int) - 4)) : Int).toNat, 0)) else (some ((⟨#[]⟩ : ByteArray), 9))))) else (none)) else (none))
def seal_Take.T4 : Bool × List (List Nat × List Nat) := (true, [([], []), ([], []), ([0, 1], [0, 1]), ([2], [2]), ([], []), ([], []), ([4, 5], [4, 5]), ([6, 3], [6]), ([7], [7]), ([3, 8], [3, 8]), ([9, 7], [9])])
def seal_Take.B4 : List Nat := [0, 0, 3, 7, 0, 0, 48, 127, 255, 511, 1023]
theorem seal_Take.tab4 : rtab .any (opsOf Tryd.f56 4) = seal_Take.T4 := by kernel_rfl
theorem seal_Take.bits4 : waitsOk seal_Take.T4.2 seal_Take.B4 = true := by kernel_rfl
set_option maxHeartbeats 8000000 in
set_option maxRecDepth 100000 in
theorem seal_Take.calls (a0 : ByteArray) (r1 : ByteArray) (r2 : Int) (w : World) (h : seal_Take.f a0 = some (r1, r2)) :
  Calls Tryd.prog 56 #[.string a0] w fun e w' => e = .returned (.tuple #[.string r1, .int .i64 r2]) ∧ Below w.heap.size w w' := by
 have HB := Ax.mk (Below.refl w.heap.size w)
 have H : (if (wrap64 ((a0.size : Int) - 4)) < 0 then (some ((⟨#[]⟩ : ByteArray), 10)) else (if 0 ≤ (wrap64 ((a0.size : Int) - 4)) then (if (wrap64 ((a0.size : Int) - 4)) ≤ (a0.size : Int) then ((le_Get.f (a0.extract ((wrap64 ((a0.size : Int) - 4)) : Int).toNat a0.size)).bind fun t220 => ((seal_Sum.f (a0.extract 0 ((wrap64 ((a0.size : Int) - 4)) : Int).toNat)).bind fun t221 => (if t220 = (IntKind.u64.wrap (t221)) then (some (a0.extract 0 ((wrap64 ((a0.size : Int) - 4)) : Int).toNat, 0)) else (some ((⟨#[]⟩ : ByteArray), 9))))) else (none)) else (none))) = some (r1, r2) := h
 clear h
 by_cases c2 : (wrap64 ((a0.size : Int) - 4)) < 0
 ·rw [if_pos c2] at H
  have c2b0 : decide ((wrap64 ((a0.size : Int) - 4)) < 0) = true := decide_eq_true c2
  clear c2
  simp only [Option.some.injEq, Prod.mk.injEq] at H
  obtain ⟨rfl, rfl⟩ := H
  go_enter Tryd.func56, Tryd.ntmps56
  go_wp2
  go_ret2
  exact ⟨by first | rfl | (simp [errW_none, errW_some] <;> rfl) | (simp [*, errW_none, errW_some] <;> rfl), bA⟩
 ·rw [if_neg c2] at H
  have c2b0 : decide ((wrap64 ((a0.size : Int) - 4)) < 0) = false := decide_eq_false c2
  clear c2
  obtain ⟨ji3, hji3⟩ : ∃ j_ : Int, (wrap64 ((a0.size : Int) - 4)) = j_ := ⟨_, rfl⟩
  replace H : (if 0 ≤ (ji3) then (if (ji3) ≤ (a0.size : Int) then ((le_Get.f (a0.extract ((ji3) : Int).toNat a0.size)).bind fun t220 => ((seal_Sum.f (a0.extract 0 ((ji3) : Int).toNat)).bind fun t221 => (if t220 = (IntKind.u64.wrap (t221)) then (some (a0.extract 0 ((ji3) : Int).toNat, 0)) else (some ((⟨#[]⟩ : ByteArray), 9))))) else (none)) else (none)) = some (r1, r2) := by first | (rw [hji3] at H; exact H) | (simp only [hji3] at H ⊢; exact H)
  (try rw [hji3] at c2b0)
  have hji3w : (IntKind.i64.wrap ((a0.size : Int) - 4)) = ji3 := (i64_w _).trans hji3
  by_cases c4 : 0 ≤ (ji3)
  ·rw [if_pos c4] at H
   have c4b0 := eq_true c4
   have c4b1 : decide (0 ≤ (ji3)) = true := decide_eq_true c4
   clear c4
   by_cases c5 : (ji3) ≤ (a0.size : Int)
   ·rw [if_pos c5] at H
    have c5b0 := eq_true c5
    have c5b1 : decide ((ji3) ≤ (a0.size : Int)) = true := decide_eq_true c5
    clear c5
    replace H := Option.bind_eq_some_iff.mp H
    obtain ⟨t220, A60, H⟩ := H
    replace H : ((seal_Sum.f (a0.extract 0 ((ji3) : Int).toNat)).bind fun t221 => (if t220 = (IntKind.u64.wrap (t221)) then (some (a0.extract 0 ((ji3) : Int).toNat, 0)) else (some ((⟨#[]⟩ : ByteArray), 9)))) = some (r1, r2) := H
    have A6 := Ax.mk A60
    clear A60
    have c7b0 := eq_true (ofD : 0 ≤ (ji3))
    have c8b0 := eq_true (ofD : (ji3) ≤ (a0.size : Int))
    replace H := Option.bind_eq_some_iff.mp H
    obtain ⟨t221, A90, H⟩ := H
    replace H : (if t220 = (IntKind.u64.wrap (t221)) then (some (a0.extract 0 ((ji3) : Int).toNat, 0)) else (some ((⟨#[]⟩ : ByteArray), 9))) = some (r1, r2) := H
    have A9 := Ax.mk A90
    clear A90
    by_cases c10 : t220 = (IntKind.u64.wrap (t221))
    ·rw [if_pos c10] at H
     have c10b0 : (t220 == (IntKind.u64.wrap (t221))) = true := beq_iff_eq.mpr c10
     have c10b1 : (t220 != (IntKind.u64.wrap (t221))) = false := bne_eq_false_iff_eq.mpr c10
     clear c10
     have c11b0 := eq_true (ofD : 0 ≤ (ji3))
     have c12b0 := eq_true (ofD : (ji3) ≤ (a0.size : Int))
     simp only [Option.some.injEq, Prod.mk.injEq] at H
     obtain ⟨rfl, rfl⟩ := H
     go_enter Tryd.func56, Tryd.ntmps56
     try go_wp2
     have n0_ := Ax.mk (below_drew1 HB.out)
     clear HB
     have HB := n0_
     clear n0_
     refine start_ (n := 11) (S := fun w' => True) (ds := []) (TF 0 11) (by kernel_rfl) rfl rfl trivial (fun hHeld => ?_); refine with_tabW seal_Take.tab4 seal_Take.bits4 (fun HT_ HW_ => ?_)
     generalize w.drew = w13 at HB hHeld ⊢
     refine pure_ (i := 0) (N := some 12) (v := ?_) (a' := ?_) (TF 1 10) rfl rfl (any_of HT_.out (by kernel_rfl)) (fun _ _ _ h => h) (Or.inl ⟨by rfl, ?_⟩) ?_ ?_
     rotate_left; · intro w'; go_simp; with_reducible rfl
     rotate_left; · simp only [Act.put, sI, sZ, sS, i64_w, i32_w]; rfl
     refine pure_ (i := 1) (N := some 13) (v := ?_) (a' := ?_) (TF 2 9) rfl rfl (any_of HT_.out (by kernel_rfl)) (fun _ _ _ h => h) (Or.inl ⟨by rfl, ?_⟩) ?_ ?_
     rotate_left; · intro w'; go_simp; with_reducible rfl
     rotate_left; · simp only [Act.put, sI, sZ, sS, i64_w, i32_w]; rfl
     refine pure_ (i := 2) (N := some 14) (v := ?_) (a' := ?_) (TF 3 8) rfl rfl (any_of HT_.out (by kernel_rfl)) (fun _ _ _ h => h) (Or.inl ⟨by rfl, ?_⟩) ?_ ?_
     rotate_left; · intro w'; go_simp; with_reducible rfl
     rotate_left; · simp only [Act.put, sI, sZ, sS, i64_w, i32_w]; rfl
     refine pure_ (i := 4) (N := some 16) (v := ?_) (a' := ?_) (BT 11 23) rfl rfl (any_of HT_.out (by kernel_rfl)) (fun _ _ _ h => h) (Or.inl ⟨by rfl, ?_⟩) ?_ ?_
     rotate_left; · intro w'; go_simp; with_reducible rfl
     rotate_left; · simp only [Act.put, sI, sZ, sS, i64_w, i32_w]; rfl
     refine pure_ (i := 5) (N := some 17) (v := ?_) (a' := ?_) (BT 11 55) rfl rfl (any_of HT_.out (by kernel_rfl)) (fun _ _ _ h => h) (Or.inl ⟨by rfl, ?_⟩) ?_ ?_
     rotate_left; · intro w'; go_simp; with_reducible rfl
     rotate_left; · simp only [Act.put, sI, sZ, sS, i64_w, i32_w]; rfl
     refine pure_ (i := 6) (N := some 18) (v := ?_) (a' := ?_) (BT 11 119) rfl rfl (any_of HT_.out (by kernel_rfl)) (fun _ _ _ h => h) (Or.inl ⟨by rfl, ?_⟩) ?_ ?_
     rotate_left; · intro w'; go_simp; with_reducible rfl
     rotate_left; · simp only [Act.put, sI, sZ, sS, i64_w, i32_w]; rfl
     refine one_ (i := 3) (N := some 15) (TF 7 4) rfl rfl (one_of HT_.out (by kernel_rfl)) (by decide) (fun K hK => ?_)
     refine goes_ Tryd.func72 (by kernel_rfl) rfl #[.string (a0.extract ((ji3) : Int).toNat a0.size)] (by rfl) rfl rfl (by (try simp only [List.map_toArray, List.map_cons, List.map_nil]); first | done | (simp only [hji3]; rfl) | rfl | (simp only [List.length_drop, List.length_take]; rfl) | (rw [wrap_sum2 (by assumption)]; rfl)) ?_
     with_reducible refine (le_Get.calls (a0.extract ((ji3) : Int).toNat a0.size) t220 _ A6.out).mono ?_
     rintro e w14 ⟨rfl, hb⟩
     refine ⟨_, rfl, ?_⟩
     have n0_ := Ax.mk (bP bA hb)
     clear HB
     have HB := n0_
     clear n0_
     (try clear hb)
     (try clear hb2)
     (try clear hk)
     (try clear hi)
     refine hK.out _ _ trivial (fun hHeld => ?_)
     clear hK K
     refine norm_ (a' := ?_) ?_ ?_
     rotate_left
     ·show Act.put _ (some 15) _ = _
      simp only [Act.put, sI, sZ, sS, i64_w, i32_w]
      rfl
     refine one_ (i := 7) (N := some 19) (TF 8 3) rfl rfl (one_of HT_.out (by kernel_rfl)) (by decide) (fun K hK => ?_)
     refine goes_ Tryd.func66 (by kernel_rfl) rfl #[.string (a0.extract 0 ((ji3) : Int).toNat)] (by rfl) rfl rfl (by (try simp only [List.map_toArray, List.map_cons, List.map_nil]); first | done | (simp only [hji3]; rfl) | rfl | (simp only [List.length_drop, List.length_take]; rfl) | (rw [wrap_sum2 (by assumption)]; rfl)) ?_
     with_reducible refine (seal_Sum.calls (a0.extract 0 ((ji3) : Int).toNat) t221 _ A9.out).mono ?_
     rintro e w15 ⟨rfl, hb⟩
     refine ⟨_, rfl, ?_⟩
     have n0_ := Ax.mk (bP bA hb)
     clear HB
     have HB := n0_
     clear n0_
     (try clear hb)
     (try clear hb2)
     (try clear hk)
     (try clear hi)
     refine hK.out _ _ trivial (fun hHeld => ?_)
     clear hK K
     refine norm_ (a' := ?_) ?_ ?_
     rotate_left
     ·show Act.put _ (some 19) _ = _
      simp only [Act.put, sI, sZ, sS, i64_w, i32_w]
      rfl
     refine pure_ (i := 8) (N := some 20) (v := ?_) (a' := ?_) (TF 9 2) rfl rfl (any_of HT_.out (by kernel_rfl)) (fun _ _ _ h => h) (Or.inl ⟨by rfl, ?_⟩) ?_ ?_
     rotate_left; · intro w'; go_simp; with_reducible rfl
     rotate_left; · simp only [Act.put, sI, sZ, sS, i64_w, i32_w]; rfl
     refine pure_ (i := 9) (N := some 21) (v := ?_) (a' := ?_) (TF 10 1) rfl rfl (any_of HT_.out (by kernel_rfl)) (fun _ _ _ h => h) (Or.inl ⟨by rfl, ?_⟩) ?_ ?_
     rotate_left; · intro w'; go_simp; with_reducible rfl
     rotate_left; · simp only [Act.put, sI, sZ, sS, i64_w, i32_w]; rfl
     refine pure_ (i := 10) (N := some 11) (v := ?_) (a' := ?_) (TF 11 0) rfl rfl (any_of HT_.out (by kernel_rfl)) (fun _ _ _ h => h) (Or.inl ⟨by rfl, ?_⟩) ?_ ?_
     rotate_left; · intro w'; go_simp; with_reducible rfl
     rotate_left; · simp only [Act.put, sI, sZ, sS, i64_w, i32_w]; rfl
     refine done_ (done_of HT_.out (by kernel_rfl)) ?_
     try go_wp2
     go_ret2
     exact ⟨by first | rfl | (simp [errW_none, errW_some] <;> rfl) | (simp only [← hji3]; first | rfl | (simp [errW_none, errW_some] <;> rfl)) | (simp [*, errW_none, errW_some] <;> rfl), bA⟩
    ·rw [if_neg c10] at H
     have c10b0 : (t220 == (IntKind.u64.wrap (t221))) = false := beq_eq_false_iff_ne.mpr c10
     have c10b1 : (t220 != (IntKind.u64.wrap (t221))) = true := bne_iff_ne.mpr c10
     simp only [Option.some.injEq, Prod.mk.injEq] at H
     obtain ⟨rfl, rfl⟩ := H
     go_enter Tryd.func56, Tryd.ntmps56
     try go_wp2
     have n0_ := Ax.mk (below_drew1 HB.out)
     clear HB
     have HB := n0_
     clear n0_
     refine start_ (n := 11) (S := fun w' => True) (ds := []) (TF 0 11) (by kernel_rfl) rfl rfl trivial (fun hHeld => ?_); refine with_tabW seal_Take.tab4 seal_Take.bits4 (fun HT_ HW_ => ?_)
     generalize w.drew = w16 at HB hHeld ⊢
     refine pure_ (i := 0) (N := some 12) (v := ?_) (a' := ?_) (TF 1 10) rfl rfl (any_of HT_.out (by kernel_rfl)) (fun _ _ _ h => h) (Or.inl ⟨by rfl, ?_⟩) ?_ ?_
     rotate_left; · intro w'; go_simp; with_reducible rfl
     rotate_left; · simp only [Act.put, sI, sZ, sS, i64_w, i32_w]; rfl
     refine pure_ (i := 1) (N := some 13) (v := ?_) (a' := ?_) (TF 2 9) rfl rfl (any_of HT_.out (by kernel_rfl)) (fun _ _ _ h => h) (Or.inl ⟨by rfl, ?_⟩) ?_ ?_
     rotate_left; · intro w'; go_simp; with_reducible rfl
     rotate_left; · simp only [Act.put, sI, sZ, sS, i64_w, i32_w]; rfl
     refine pure_ (i := 2) (N := some 14) (v := ?_) (a' := ?_) (TF 3 8) rfl rfl (any_of HT_.out (by kernel_rfl)) (fun _ _ _ h => h) (Or.inl ⟨by rfl, ?_⟩) ?_ ?_
     rotate_left; · intro w'; go_simp; with_reducible rfl
     rotate_left; · simp only [Act.put, sI, sZ, sS, i64_w, i32_w]; rfl
     refine pure_ (i := 4) (N := some 16) (v := ?_) (a' := ?_) (BT 11 23) rfl rfl (any_of HT_.out (by kernel_rfl)) (fun _ _ _ h => h) (Or.inl ⟨by rfl, ?_⟩) ?_ ?_
     rotate_left; · intro w'; go_simp; with_reducible rfl
     rotate_left; · simp only [Act.put, sI, sZ, sS, i64_w, i32_w]; rfl
     refine pure_ (i := 5) (N := some 17) (v := ?_) (a' := ?_) (BT 11 55) rfl rfl (any_of HT_.out (by kernel_rfl)) (fun _ _ _ h => h) (Or.inl ⟨by rfl, ?_⟩) ?_ ?_
     rotate_left; · intro w'; go_simp; with_reducible rfl
     rotate_left; · simp only [Act.put, sI, sZ, sS, i64_w, i32_w]; rfl
     refine pure_ (i := 6) (N := some 18) (v := ?_) (a' := ?_) (BT 11 119) rfl rfl (any_of HT_.out (by kernel_rfl)) (fun _ _ _ h => h) (Or.inl ⟨by rfl, ?_⟩) ?_ ?_
     rotate_left; · intro w'; go_simp; with_reducible rfl
     rotate_left; · simp only [Act.put, sI, sZ, sS, i64_w, i32_w]; rfl
     refine one_ (i := 3) (N := some 15) (TF 7 4) rfl rfl (one_of HT_.out (by kernel_rfl)) (by decide) (fun K hK => ?_)
     refine goes_ Tryd.func72 (by kernel_rfl) rfl #[.string (a0.extract ((ji3) : Int).toNat a0.size)] (by rfl) rfl rfl (by (try simp only [List.map_toArray, List.map_cons, List.map_nil]); first | done | (simp only [hji3]; rfl) | rfl | (simp only [List.length_drop, List.length_take]; rfl) | (rw [wrap_sum2 (by assumption)]; rfl)) ?_
     with_reducible refine (le_Get.calls (a0.extract ((ji3) : Int).toNat a0.size) t220 _ A6.out).mono ?_
     rintro e w17 ⟨rfl, hb⟩
     refine ⟨_, rfl, ?_⟩
     have n0_ := Ax.mk (bP bA hb)
     clear HB
     have HB := n0_
     clear n0_
     (try clear hb)
     (try clear hb2)
     (try clear hk)
     (try clear hi)
     refine hK.out _ _ trivial (fun hHeld => ?_)
     clear hK K
     refine norm_ (a' := ?_) ?_ ?_
     rotate_left
     ·show Act.put _ (some 15) _ = _
      simp only [Act.put, sI, sZ, sS, i64_w, i32_w]
      rfl
     refine one_ (i := 7) (N := some 19) (TF 8 3) rfl rfl (one_of HT_.out (by kernel_rfl)) (by decide) (fun K hK => ?_)
     refine goes_ Tryd.func66 (by kernel_rfl) rfl #[.string (a0.extract 0 ((ji3) : Int).toNat)] (by rfl) rfl rfl (by (try simp only [List.map_toArray, List.map_cons, List.map_nil]); first | done | (simp only [hji3]; rfl) | rfl | (simp only [List.length_drop, List.length_take]; rfl) | (rw [wrap_sum2 (by assumption)]; rfl)) ?_
     with_reducible refine (seal_Sum.calls (a0.extract 0 ((ji3) : Int).toNat) t221 _ A9.out).mono ?_
     rintro e w18 ⟨rfl, hb⟩
     refine ⟨_, rfl, ?_⟩
     have n0_ := Ax.mk (bP bA hb)
     clear HB
     have HB := n0_
     clear n0_
     (try clear hb)
     (try clear hb2)
     (try clear hk)
     (try clear hi)
     refine hK.out _ _ trivial (fun hHeld => ?_)
     clear hK K
     refine norm_ (a' := ?_) ?_ ?_
     rotate_left
     ·show Act.put _ (some 19) _ = _
      simp only [Act.put, sI, sZ, sS, i64_w, i32_w]
      rfl
     refine pure_ (i := 8) (N := some 20) (v := ?_) (a' := ?_) (TF 9 2) rfl rfl (any_of HT_.out (by kernel_rfl)) (fun _ _ _ h => h) (Or.inl ⟨by rfl, ?_⟩) ?_ ?_
     rotate_left; · intro w'; go_simp; with_reducible rfl
     rotate_left; · simp only [Act.put, sI, sZ, sS, i64_w, i32_w]; rfl
     refine pure_ (i := 9) (N := some 21) (v := ?_) (a' := ?_) (TF 10 1) rfl rfl (any_of HT_.out (by kernel_rfl)) (fun _ _ _ h => h) (Or.inl ⟨by rfl, ?_⟩) ?_ ?_
     rotate_left; · intro w'; go_simp; with_reducible rfl
     rotate_left; · simp only [Act.put, sI, sZ, sS, i64_w, i32_w]; rfl
     refine pure_ (i := 10) (N := some 11) (v := ?_) (a' := ?_) (TF 11 0) rfl rfl (any_of HT_.out (by kernel_rfl)) (fun _ _ _ h => h) (Or.inl ⟨by rfl, ?_⟩) ?_ ?_
     rotate_left; · intro w'; go_simp; with_reducible rfl
     rotate_left; · simp only [Act.put, sI, sZ, sS, i64_w, i32_w]; rfl
     refine done_ (done_of HT_.out (by kernel_rfl)) ?_
     try go_wp2
     go_ret2
     exact ⟨by first | rfl | (simp [errW_none, errW_some] <;> rfl) | (simp only [← hji3]; first | rfl | (simp [errW_none, errW_some] <;> rfl)) | (simp [*, errW_none, errW_some] <;> rfl), bA⟩
   ·rw [if_neg c5] at H
    exact absurd H (by simp)
  ·rw [if_neg c4] at H
   exact absurd H (by simp)
def IsS96 (w0 W : World) (g : Nat) (f0 : ByteArray) (f1 : Bool) : Prop := W.heap[g]? = some (.cells #[.string f0, .bool f1] 96 (0, 0)) ∧ w0.heap.size ≤ g
theorem IsS96.grown {w0 W : World} {g : Nat} {f0 : ByteArray} {f1 : Bool} {W1 : World} {row : Option Nat} (h : IsS96 w0 W g f0 f1) (hw : W.grownBy W1 row) (hne : some g ≠ row) : IsS96 w0 W1 g f0 f1 := by
 obtain ⟨hb, hg⟩ := h
 exact ⟨blk_grown hb hw hne, hg⟩
theorem IsS96.kept {w0 W : World} {g : Nat} {f0 : ByteArray} {f1 : Bool} {W1 : World} {S : Nat → Prop} (h : IsS96 w0 W g f0 f1) (hk : Kept W W1 S) (hne : ¬ S g) : IsS96 w0 W1 g f0 f1 := by
 obtain ⟨hb, hg⟩ := h
 exact ⟨blk_kept hb hk hne, hg⟩
theorem IsS96.below {w0 W : World} {g : Nat} {f0 : ByteArray} {f1 : Bool} {W1 : World} (h : IsS96 w0 W g f0 f1) (hw : Below W.heap.size W W1) : IsS96 w0 W1 g f0 f1 := h.grown (grown_of_below hw none) (by simp)
theorem IsS96.alloc {w0 W : World} {g : Nat} {f0 : ByteArray} {f1 : Bool} (h : IsS96 w0 W g f0 f1) (o : Obj) : IsS96 w0 (W.alloc o) g f0 f1 := h.below (below_alloc (Below.refl _ _) o)
theorem IsS96.drewN {w0 W : World} {g : Nat} {f0 : ByteArray} {f1 : Bool} (h : IsS96 w0 W g f0 f1) (m : Nat) : IsS96 w0 (W.drewN m) g f0 f1 := h
theorem IsS96.drew {w0 W : World} {g : Nat} {f0 : ByteArray} {f1 : Bool} (h : IsS96 w0 W g f0 f1) : IsS96 w0 W.drew g f0 f1 := h
theorem IsS96.apart {w0 W : World} {g : Nat} {f0 : ByteArray} {f1 : Bool} {α : Type} {d : Kd α} {e : Nat} {base : Nat} {ok : Nat → Prop} {v : Value} {xs : List α} (h : IsS96 w0 W g f0 f1) (ho : d.R e W base ok v xs) (ht : ∀ q, q ∈ e :: d.E → q ≠ 96) : d.R e W base (fun k => ok k ∧ k ≠ g) v xs := by
 obtain ⟨hb, hg⟩ := h
 exact Kd.R_types ho hb ht
theorem IsS96.own_ne {w0 W : World} {g : Nat} {f0 : ByteArray} {f1 : Bool} {α : Type} {d : Kd α} {e : Nat} {base : Nat} {ok : Nat → Prop} {v : Value} {xs : List α} (h : IsS96 w0 W g f0 f1) (ho : d.R e W base ok v xs) (ht : e ≠ 96) : some g ≠ v.ownBlock := by
 obtain ⟨hb, hg⟩ := h
 exact Kd.R_ne ho hb ht
theorem IsS96.lt {w0 W : World} {g : Nat} {f0 : ByteArray} {f1 : Bool} (h : IsS96 w0 W g f0 f1) : g < W.heap.size := by
 obtain ⟨hb, hg⟩ := h
 exact bL hb
theorem IsS96.ge {w0 W : World} {g : Nat} {f0 : ByteArray} {f1 : Bool} (h : IsS96 w0 W g f0 f1) : w0.heap.size ≤ g := by
 obtain ⟨hb, hg⟩ := h
 exact hg
theorem cellS96_0 {W : World} {g : Nat} {f0 : ByteArray} {f1 : Bool} (h : W.heap[g]? = some (.cells #[.string f0, .bool f1] 96 (0, 0))) : W.cell? ⟨g, 0, none⟩ = some (.string f0) := (bC h 0).trans rfl
theorem IsS96.set_0 {w0 W : World} {g : Nat} {f0 : ByteArray} {f1 : Bool} (h : IsS96 w0 W g f0 f1) (x : ByteArray) : IsS96 w0 (W.setCell ⟨g, 0, none⟩ (.string x)) g x f1 := by
 obtain ⟨hb, hg⟩ := h
 exact ⟨by simpa using blk_set hb 0 (.string x), hg⟩
theorem cellS96_1 {W : World} {g : Nat} {f0 : ByteArray} {f1 : Bool} (h : W.heap[g]? = some (.cells #[.string f0, .bool f1] 96 (0, 0))) : W.cell? ⟨g, 1, none⟩ = some (.bool f1) := (bC h 1).trans rfl
theorem IsS96.set_1 {w0 W : World} {g : Nat} {f0 : ByteArray} {f1 : Bool} (h : IsS96 w0 W g f0 f1) (x : Bool) : IsS96 w0 (W.setCell ⟨g, 1, none⟩ (.bool x)) g f0 x := by
 obtain ⟨hb, hg⟩ := h
 exact ⟨by simpa using blk_set hb 1 (.bool x), hg⟩
theorem IsS96.new (w0 W : World) (f0 : ByteArray) (f1 : Bool) (hB : Below w0.heap.size w0 W) : IsS96 w0 (W.alloc (.cells #[.string f0, .bool f1] 96)) W.heap.size f0 f1 := ⟨by simpa using heap_alloc_new W _, hB.size⟩
def le_Reader_Text.f (s0_0 : ByteArray) (s0_1 : Bool) (a1 : Int) : Option (ByteArray × ByteArray × Bool) := if s0_1 = true then (some ((⟨#[]⟩ : ByteArray), s0_0, true)) else (if a1 < 0 then (some ((⟨#[]⟩ : ByteArray), s0_0, true)) else (if a1 > (s0_0.size : Int) then (some ((⟨#[]⟩ : ByteArray), s0_0, decide (a1 > (s0_0.size : Int)))) else (if 0 ≤ a1 then (if a1 ≤ (s0_0.size : Int) then (some (s0_0.extract 0 (a1 : Int).toNat, s0_0.extract (a1 : Int).toNat s0_0.size, decide (a1 > (s0_0.size : Int)))) else (none)) else (none))))
set_option maxHeartbeats 8000000 in
set_option maxRecDepth 100000 in
theorem le_Reader_Text.calls (g : Nat) (s0_0 : ByteArray) (s0_1 : Bool) (a1 : Int) (r1 : ByteArray) (r2 : ByteArray) (r3 : Bool) (w0 w : World) (hI : IsS96 w0 w g s0_0 s0_1) (hB : Below w0.heap.size w0 w) (h : le_Reader_Text.f s0_0 s0_1 a1 = some (r1, r2, r3)) :
  Calls Tryd.prog 54 #[.pointer (some ⟨g, 0, none⟩), .int .i64 a1] w fun e w' => e = .returned (.string r1) ∧ IsS96 w0 w' g r2 r3 ∧ Below w0.heap.size w0 w' ∧ KeepBut w w' g none := by
 have HI0 := Ax.mk hI
 have HK := Ax.mk (KeepBut.refl w g none)
 have HL := Ax.mk hB.size
 clear hI
 have HW0 := Ax.mk hB.size
 have HB := Ax.mk hB
 clear hB
 have H : (if s0_1 = true then (some ((⟨#[]⟩ : ByteArray), s0_0, true)) else (if a1 < 0 then (some ((⟨#[]⟩ : ByteArray), s0_0, true)) else (if a1 > (s0_0.size : Int) then (some ((⟨#[]⟩ : ByteArray), s0_0, decide (a1 > (s0_0.size : Int)))) else (if 0 ≤ a1 then (if a1 ≤ (s0_0.size : Int) then (some (s0_0.extract 0 (a1 : Int).toNat, s0_0.extract (a1 : Int).toNat s0_0.size, decide (a1 > (s0_0.size : Int)))) else (none)) else (none))))) = some (r1, r2, r3) := h
 clear h
 by_cases c3 : s0_1 = true
 ·subst c3
  have H1 : (some ((⟨#[]⟩ : ByteArray), s0_0, true)) = some (r1, r2, r3) := by rw [if_pos rfl] at H; exact H
  clear H
  have H := H1
  clear H1
  simp only [Option.some.injEq, Prod.mk.injEq] at H
  obtain ⟨rfl, rfl, rfl⟩ := H
  obtain ⟨HGz4, hgz4⟩ := HI0.out
  have hcz4_0 := cellS96_0 HGz4
  have hcz4_1 := cellS96_1 HGz4
  have hfz4_0 := bF HGz4 0
  have hfz4_1 := bF HGz4 1
  clear HGz4 hgz4
  go_enter Tryd.func54, Tryd.ntmps54
  go_wp2
  go_ret
  exact ⟨by first | rfl | (simp [errW_none, errW_some] <;> rfl) | (simp [*, errW_none, errW_some] <;> rfl), by repeat (first | (with_reducible first | exact HI0.out | apply IsS96.alloc | apply IsS96.drewN | apply IsS96.drew | apply IsS96.set_0 | apply IsS96.set_1) | exact HI0.out), by repeat (first | (with_reducible first | exact HB.out | apply below_alloc | apply pw_below_drewN | apply below_drew1 | refine below_set ?_ (IsS96.ge HI0.out)) | exact HB.out), by repeat (first | (with_reducible first | exact HK.out | apply KeepBut.set_ | apply keep_drewN | apply keep_drew | apply keep_alloc) | exact HK.out)⟩
 ·replace c3 := Bool.eq_false_iff.mpr c3
  subst c3
  have H1 : (if a1 < 0 then (some ((⟨#[]⟩ : ByteArray), s0_0, true)) else (if a1 > (s0_0.size : Int) then (some ((⟨#[]⟩ : ByteArray), s0_0, decide (a1 > (s0_0.size : Int)))) else (if 0 ≤ a1 then (if a1 ≤ (s0_0.size : Int) then (some (s0_0.extract 0 (a1 : Int).toNat, s0_0.extract (a1 : Int).toNat s0_0.size, decide (a1 > (s0_0.size : Int)))) else (none)) else (none)))) = some (r1, r2, r3) := by rw [if_neg (show ¬ (false = true) by decide)] at H; exact H
  clear H
  have H := H1
  clear H1
  by_cases c5 : a1 < 0
  ·rw [if_pos c5] at H
   (try rw [decide_eq_true c5] at H)
   have c5b0 : decide (a1 < 0) = true := decide_eq_true c5
   clear c5
   simp only [Option.some.injEq, Prod.mk.injEq] at H
   obtain ⟨rfl, rfl, rfl⟩ := H
   obtain ⟨HGz6, hgz6⟩ := HI0.out
   have hcz6_0 := cellS96_0 HGz6
   have hcz6_1 := cellS96_1 HGz6
   have hfz6_0 := bF HGz6 0
   have hfz6_1 := bF HGz6 1
   clear HGz6 hgz6
   go_enter Tryd.func54, Tryd.ntmps54
   go_wp2
   go_ret
   exact ⟨by first | rfl | (simp [errW_none, errW_some] <;> rfl) | (simp [*, errW_none, errW_some] <;> rfl), by repeat (first | (with_reducible first | exact HI0.out | apply IsS96.alloc | apply IsS96.drewN | apply IsS96.drew | apply IsS96.set_0 | apply IsS96.set_1) | exact HI0.out), by repeat (first | (with_reducible first | exact HB.out | apply below_alloc | apply pw_below_drewN | apply below_drew1 | refine below_set ?_ (IsS96.ge HI0.out)) | exact HB.out), by repeat (first | (with_reducible first | exact HK.out | apply KeepBut.set_ | apply keep_drewN | apply keep_drew | apply keep_alloc) | exact HK.out)⟩
  ·rw [if_neg c5] at H
   (try rw [decide_eq_false c5] at H)
   have c5b0 : decide (a1 < 0) = false := decide_eq_false c5
   clear c5
   by_cases c7 : a1 > (s0_0.size : Int)
   ·rw [if_pos c7] at H
    (try rw [decide_eq_true c7] at H)
    have c7b0 : decide ((s0_0.size : Int) < a1) = true := decide_eq_true c7
    clear c7
    simp only [Option.some.injEq, Prod.mk.injEq] at H
    obtain ⟨rfl, rfl, rfl⟩ := H
    obtain ⟨HGz8, hgz8⟩ := HI0.out
    have hcz8_0 := cellS96_0 HGz8
    have hcz8_1 := cellS96_1 HGz8
    have hfz8_0 := bF HGz8 0
    have hfz8_1 := bF HGz8 1
    clear HGz8 hgz8
    go_enter Tryd.func54, Tryd.ntmps54
    go_wp2
    go_ret
    exact ⟨by first | rfl | (simp [errW_none, errW_some] <;> rfl) | (simp [*, errW_none, errW_some] <;> rfl), by repeat (first | (with_reducible first | exact HI0.out | apply IsS96.alloc | apply IsS96.drewN | apply IsS96.drew | apply IsS96.set_0 | apply IsS96.set_1) | exact HI0.out), by repeat (first | (with_reducible first | exact HB.out | apply below_alloc | apply pw_below_drewN | apply below_drew1 | refine below_set ?_ (IsS96.ge HI0.out)) | exact HB.out), by repeat (first | (with_reducible first | exact HK.out | apply KeepBut.set_ | apply keep_drewN | apply keep_drew | apply keep_alloc) | exact HK.out)⟩
   ·rw [if_neg c7] at H
    (try rw [decide_eq_false c7] at H)
    have c7b0 : decide ((s0_0.size : Int) < a1) = false := decide_eq_false c7
    clear c7
    by_cases c9 : 0 ≤ a1
    ·rw [if_pos c9] at H
     (try rw [decide_eq_true c9] at H)
     have c9b0 := eq_true c9
     have c9b1 : decide (0 ≤ a1) = true := decide_eq_true c9
     clear c9
     by_cases c10 : a1 ≤ (s0_0.size : Int)
     ·rw [if_pos c10] at H
      (try rw [decide_eq_true c10] at H)
      have c10b0 := eq_true c10
      have c10b1 : decide (a1 ≤ (s0_0.size : Int)) = true := decide_eq_true c10
      clear c10
      have c11b0 := eq_true (ofD : 0 ≤ a1)
      have c12b0 := eq_true (ofD : a1 ≤ (s0_0.size : Int))
      simp only [Option.some.injEq, Prod.mk.injEq] at H
      obtain ⟨rfl, rfl, rfl⟩ := H
      obtain ⟨HGz13, hgz13⟩ := HI0.out
      have hcz13_0 := cellS96_0 HGz13
      have hcz13_1 := cellS96_1 HGz13
      have hfz13_0 := bF HGz13 0
      have hfz13_1 := bF HGz13 1
      clear HGz13 hgz13
      go_enter Tryd.func54, Tryd.ntmps54
      go_wp2
      go_ret
      exact ⟨by first | rfl | (simp [errW_none, errW_some] <;> rfl) | (simp [*, errW_none, errW_some] <;> rfl), by repeat (first | (with_reducible first | exact HI0.out | apply IsS96.alloc | apply IsS96.drewN | apply IsS96.drew | apply IsS96.set_0 | apply IsS96.set_1) | exact HI0.out), by repeat (first | (with_reducible first | exact HB.out | apply below_alloc | apply pw_below_drewN | apply below_drew1 | refine below_set ?_ (IsS96.ge HI0.out)) | exact HB.out), by repeat (first | (with_reducible first | exact HK.out | apply KeepBut.set_ | apply keep_drewN | apply keep_drew | apply keep_alloc) | exact HK.out)⟩
     ·rw [if_neg c10] at H
      (try rw [decide_eq_false c10] at H)
      exact absurd H (by simp)
    ·rw [if_neg c9] at H
     (try rw [decide_eq_false c9] at H)
     exact absurd H (by simp)
def le_Reader_Number.f (s0_0 : ByteArray) (s0_1 : Bool) (a1 : Int) : Option (Int × ByteArray × Bool) := if a1 > 8 then ((le_Reader_Text.f s0_0 s0_1 (-1)).bind fun bt212 => ((le_Get.f bt212.1).bind fun t215 => (some (t215, bt212.2.1, bt212.2.2)))) else ((le_Reader_Text.f s0_0 s0_1 a1).bind fun bt216 => ((le_Get.f bt216.1).bind fun t219 => (some (t219, bt216.2.1, bt216.2.2))))
set_option maxHeartbeats 8000000 in
set_option maxRecDepth 100000 in
theorem le_Reader_Number.calls (g : Nat) (s0_0 : ByteArray) (s0_1 : Bool) (a1 : Int) (r1 : Int) (r2 : ByteArray) (r3 : Bool) (w0 w : World) (hI : IsS96 w0 w g s0_0 s0_1) (hB : Below w0.heap.size w0 w) (h : le_Reader_Number.f s0_0 s0_1 a1 = some (r1, r2, r3)) :
  Calls Tryd.prog 55 #[.pointer (some ⟨g, 0, none⟩), .int .i64 a1] w fun e w' => e = .returned (.int .u64 r1) ∧ IsS96 w0 w' g r2 r3 ∧ Below w0.heap.size w0 w' ∧ KeepBut w w' g none := by
 have HI0 := Ax.mk hI
 have HK := Ax.mk (KeepBut.refl w g none)
 have HL := Ax.mk hB.size
 clear hI
 have HW0 := Ax.mk hB.size
 have HB := Ax.mk hB
 clear hB
 have H : (if a1 > 8 then ((le_Reader_Text.f s0_0 s0_1 (-1)).bind fun bt212 => ((le_Get.f bt212.1).bind fun t215 => (some (t215, bt212.2.1, bt212.2.2)))) else ((le_Reader_Text.f s0_0 s0_1 a1).bind fun bt216 => ((le_Get.f bt216.1).bind fun t219 => (some (t219, bt216.2.1, bt216.2.2))))) = some (r1, r2, r3) := h
 clear h
 by_cases c3 : a1 > 8
 ·rw [if_pos c3] at H
  have c3b0 : decide (8 < a1) = true := decide_eq_true c3
  clear c3
  replace H := Option.bind_eq_some_iff.mp H
  obtain ⟨⟨t212, t213, t214⟩, A40, H⟩ := H
  replace H : ((le_Get.f t212).bind fun t215 => (some (t215, t213, t214))) = some (r1, r2, r3) := H
  have A4 := Ax.mk A40
  clear A40
  replace H := Option.bind_eq_some_iff.mp H
  obtain ⟨t215, A50, H⟩ := H
  replace H : (some (t215, t213, t214)) = some (r1, r2, r3) := H
  have A5 := Ax.mk A50
  clear A50
  simp only [Option.some.injEq, Prod.mk.injEq] at H
  obtain ⟨rfl, rfl, rfl⟩ := H
  go_enter Tryd.func55, Tryd.ntmps55
  go_wp2_with (first | ((with_reducible refine gate_callee (f := 54) rfl ?_); refine goesL_ (some 9) rfl rfl Tryd.func54 (by kernel_rfl) rfl #[.pointer (some ⟨g, 0, none⟩), .int .i64 (-1)] rfl (by (try simp only [List.map_toArray, List.map_cons, List.map_nil]); first | done | rfl | (simp only [List.length_drop, List.length_take]; rfl) | (rw [wrap_sum2 (by assumption)]; rfl)) ?_; (with_reducible refine (le_Reader_Text.calls g s0_0 s0_1 (-1) t212 t213 t214 w0 _ ?side1 ?side2 A4.out).mono ?_); (case side1 => repeat (first | (with_reducible first | exact HI0.out | apply IsS96.alloc | apply IsS96.drewN | apply IsS96.drew | apply IsS96.set_0 | apply IsS96.set_1) | exact HI0.out)); (case side2 => repeat (first | (with_reducible first | exact HB.out | apply below_alloc | apply pw_below_drewN | apply below_drew1 | refine below_set ?_ (IsS96.ge HI0.out)) | exact HB.out)); rintro e w6 ⟨rfl, hi, hb, hk⟩; refine ⟨_, rfl, ?_⟩; have n0_ := Ax.mk (KeepBut.trans (by repeat (first | (with_reducible first | exact HK.out | apply KeepBut.set_ | apply keep_drewN | apply keep_drew | apply keep_alloc) | exact HK.out)) hk (.inl rfl)); have n1_ := Ax.mk (hb); have n2_ := Ax.mk (hi); clear HK; clear HB; clear HI0; have HK := n0_; have HB := n1_; have HI0 := n2_; clear n0_ n1_ n2_; (try clear hb); (try clear hb2); (try clear hk); (try clear hi)) | ((with_reducible refine gate_callee (f := 72) rfl ?_); refine goesL_ (some 10) rfl rfl Tryd.func72 (by kernel_rfl) rfl #[.string t212] rfl (by (try simp only [List.map_toArray, List.map_cons, List.map_nil]); first | done | rfl | (simp only [List.length_drop, List.length_take]; rfl) | (rw [wrap_sum2 (by assumption)]; rfl)) ?_; (with_reducible refine (le_Get.calls t212 t215 _ A5.out).mono ?_); rintro e w7 ⟨rfl, hb⟩; refine ⟨_, rfl, ?_⟩; have n0_ := Ax.mk (IsS96.below (by repeat (first | (with_reducible first | exact HI0.out | apply IsS96.alloc | apply IsS96.drewN | apply IsS96.drew | apply IsS96.set_0 | apply IsS96.set_1) | exact HI0.out)) hb); have n1_ := Ax.mk (KeepBut.trans (by repeat (first | (with_reducible first | exact HK.out | apply KeepBut.set_ | apply keep_drewN | apply keep_drew | apply keep_alloc) | exact HK.out)) (KeepBut.of_below hb g none) (.inl rfl)); have n2_ := Ax.mk (bP (by repeat (first | (with_reducible first | exact HB.out | apply below_alloc | apply pw_below_drewN | apply below_drew1 | refine below_set ?_ (IsS96.ge HI0.out)) | exact HB.out)) hb); clear HI0; clear HK; clear HB; have HI0 := n0_; have HK := n1_; have HB := n2_; clear n0_ n1_ n2_; (try clear hb); (try clear hb2); (try clear hk); (try clear hi)))
  go_ret
  exact ⟨by first | rfl | (simp [errW_none, errW_some] <;> rfl) | (simp [*, errW_none, errW_some] <;> rfl), by repeat (first | (with_reducible first | exact HI0.out | apply IsS96.alloc | apply IsS96.drewN | apply IsS96.drew | apply IsS96.set_0 | apply IsS96.set_1) | exact HI0.out), by repeat (first | (with_reducible first | exact HB.out | apply below_alloc | apply pw_below_drewN | apply below_drew1 | refine below_set ?_ (IsS96.ge HI0.out)) | exact HB.out), by repeat (first | (with_reducible first | exact HK.out | apply KeepBut.set_ | apply keep_drewN | apply keep_drew | apply keep_alloc) | exact HK.out)⟩
 ·rw [if_neg c3] at H
  have c3b0 : decide (8 < a1) = false := decide_eq_false c3
  clear c3
  replace H := Option.bind_eq_some_iff.mp H
  obtain ⟨⟨t216, t217, t218⟩, A80, H⟩ := H
  replace H : ((le_Get.f t216).bind fun t219 => (some (t219, t217, t218))) = some (r1, r2, r3) := H
  have A8 := Ax.mk A80
  clear A80
  replace H := Option.bind_eq_some_iff.mp H
  obtain ⟨t219, A90, H⟩ := H
  replace H : (some (t219, t217, t218)) = some (r1, r2, r3) := H
  have A9 := Ax.mk A90
  clear A90
  simp only [Option.some.injEq, Prod.mk.injEq] at H
  obtain ⟨rfl, rfl, rfl⟩ := H
  go_enter Tryd.func55, Tryd.ntmps55
  go_wp2_with (first | ((with_reducible refine gate_callee (f := 54) rfl ?_); refine goesL_ (some 9) rfl rfl Tryd.func54 (by kernel_rfl) rfl #[.pointer (some ⟨g, 0, none⟩), .int .i64 a1] rfl (by (try simp only [List.map_toArray, List.map_cons, List.map_nil]); first | done | rfl | (simp only [List.length_drop, List.length_take]; rfl) | (rw [wrap_sum2 (by assumption)]; rfl)) ?_; (with_reducible refine (le_Reader_Text.calls g s0_0 s0_1 a1 t216 t217 t218 w0 _ ?side1 ?side2 A8.out).mono ?_); (case side1 => repeat (first | (with_reducible first | exact HI0.out | apply IsS96.alloc | apply IsS96.drewN | apply IsS96.drew | apply IsS96.set_0 | apply IsS96.set_1) | exact HI0.out)); (case side2 => repeat (first | (with_reducible first | exact HB.out | apply below_alloc | apply pw_below_drewN | apply below_drew1 | refine below_set ?_ (IsS96.ge HI0.out)) | exact HB.out)); rintro e w10 ⟨rfl, hi, hb, hk⟩; refine ⟨_, rfl, ?_⟩; have n0_ := Ax.mk (KeepBut.trans (by repeat (first | (with_reducible first | exact HK.out | apply KeepBut.set_ | apply keep_drewN | apply keep_drew | apply keep_alloc) | exact HK.out)) hk (.inl rfl)); have n1_ := Ax.mk (hb); have n2_ := Ax.mk (hi); clear HK; clear HB; clear HI0; have HK := n0_; have HB := n1_; have HI0 := n2_; clear n0_ n1_ n2_; (try clear hb); (try clear hb2); (try clear hk); (try clear hi)) | ((with_reducible refine gate_callee (f := 72) rfl ?_); refine goesL_ (some 10) rfl rfl Tryd.func72 (by kernel_rfl) rfl #[.string t216] rfl (by (try simp only [List.map_toArray, List.map_cons, List.map_nil]); first | done | rfl | (simp only [List.length_drop, List.length_take]; rfl) | (rw [wrap_sum2 (by assumption)]; rfl)) ?_; (with_reducible refine (le_Get.calls t216 t219 _ A9.out).mono ?_); rintro e w11 ⟨rfl, hb⟩; refine ⟨_, rfl, ?_⟩; have n0_ := Ax.mk (IsS96.below (by repeat (first | (with_reducible first | exact HI0.out | apply IsS96.alloc | apply IsS96.drewN | apply IsS96.drew | apply IsS96.set_0 | apply IsS96.set_1) | exact HI0.out)) hb); have n1_ := Ax.mk (KeepBut.trans (by repeat (first | (with_reducible first | exact HK.out | apply KeepBut.set_ | apply keep_drewN | apply keep_drew | apply keep_alloc) | exact HK.out)) (KeepBut.of_below hb g none) (.inl rfl)); have n2_ := Ax.mk (bP (by repeat (first | (with_reducible first | exact HB.out | apply below_alloc | apply pw_below_drewN | apply below_drew1 | refine below_set ?_ (IsS96.ge HI0.out)) | exact HB.out)) hb); clear HI0; clear HK; clear HB; have HI0 := n0_; have HK := n1_; have HB := n2_; clear n0_ n1_ n2_; (try clear hb); (try clear hb2); (try clear hk); (try clear hi)))
  go_ret
  exact ⟨by first | rfl | (simp [errW_none, errW_some] <;> rfl) | (simp [*, errW_none, errW_some] <;> rfl), by repeat (first | (with_reducible first | exact HI0.out | apply IsS96.alloc | apply IsS96.drewN | apply IsS96.drew | apply IsS96.set_0 | apply IsS96.set_1) | exact HI0.out), by repeat (first | (with_reducible first | exact HB.out | apply below_alloc | apply pw_below_drewN | apply below_drew1 | refine below_set ?_ (IsS96.ge HI0.out)) | exact HB.out), by repeat (first | (with_reducible first | exact HK.out | apply KeepBut.set_ | apply keep_drewN | apply keep_drew | apply keep_alloc) | exact HK.out)⟩
def step_Take.f (k : Nat) (a0 : ByteArray) : Option (Int × Int × Int × Int × ByteArray × ByteArray × Int) :=
 (le_Reader_Number.f a0 false 2).bind fun n1 => (le_Reader_Text.f n1.2.1 n1.2.2 (wrap64 n1.1)).bind fun t1 =>
 if t1.2.2 = true then some (0, 0, 0, 0, ⟨#[]⟩, ⟨#[]⟩, 10) else (seal_Take.f t1.1).bind fun s1 =>
 if s1.2 = 0 then (le_Reader_Number.f s1.1 false 1).bind fun q1 => (le_Reader_Number.f q1.2.1 q1.2.2 4).bind fun q2 => (le_Reader_Number.f q2.2.1 q2.2.2 4).bind fun q3 =>
  (le_Reader_Number.f q3.2.1 q3.2.2 8).bind fun q4 => (le_Reader_Text.f q4.2.1 q4.2.2 (q4.2.1.size : Int)).bind fun x =>
  if x.2.2 = true then some (0, 0, 0, 0, ⟨#[]⟩, ⟨#[]⟩, 2) else (step_Right.f k (wrap64 q1.1) (wrap64 q2.1) (wrap64 q3.1) q4.1 x.1).bind fun ok =>
  if ok = true then some (wrap64 q1.1, wrap64 q2.1, wrap64 q3.1, q4.1, x.1, t1.2.1, 0) else some (0, 0, 0, 0, ⟨#[]⟩, ⟨#[]⟩, 2)
 else some (0, 0, 0, 0, ⟨#[]⟩, ⟨#[]⟩, s1.2)
theorem step_Take.mono : ∀ a0 k, LeO (step_Take.f k a0) (step_Take.f (k + 1) a0) := by
 intro a0 k
 unfold step_Take.f
 repeat' first
   | (with_reducible exact step_Right.mono _ _ _ _ _ _)
   | (with_reducible exact LeO.refl _)
   | (with_reducible exact LeO.none _)
   | (with_reducible refine LeO.ite ?_ ?_)
   | (with_reducible refine LeO.bind ?_ (fun _ => ?_))
   | exact LeO.none _
   | refine LeO.ite ?_ ?_
   | refine LeO.bind ?_ (fun _ => ?_)
def step_Take.T13 : Bool × List (List Nat × List Nat) := (true, [([], []), ([], []), ([1], [1]), ([2], [2]), ([3], [3]), ([0, 0], [0]), ([4, 5, 0, 1, 2, 3, 4, 5], [4]), ([6, 0, 1, 2, 3, 4, 5, 6], [])])
def step_Take.B13 : List Nat := [0, 0, 2, 6, 14, 1, 63, 127]
theorem step_Take.tab13 : rtab .any (opsOf Tryd.f27 13) = step_Take.T13 := by kernel_rfl
theorem step_Take.bits13 : waitsOk step_Take.T13.2 step_Take.B13 = true := by kernel_rfl
theorem keep_blk {w w1 : World} {g k : Nat} {o : Obj} (hk : KeepBut w w1 g none) (h : w.heap[k]? = some o) (hne : k ≠ g) : w1.heap[k]? = some o := by
 have hlt : k < w.heap.size := (Array.getElem?_eq_some_iff.1 h).1
 rw [hk.2 k hlt hne (by simp)]; exact h
theorem put24 {W : World} {g : Nat} {o0 o1 o2 o3 o4 : Value} (h : W.heap[g]? = some (.cells #[o0, o1, o2, o3, o4] 24 (0, 0))) (v0 v1 v2 v3 v4 : Value) :
  (((((W.setCell ⟨g, 0, none⟩ v0).setCell ⟨g, 1, none⟩ v1).setCell ⟨g, 2, none⟩ v2).setCell ⟨g, 3, none⟩ v3).setCell ⟨g, 4, none⟩ v4).heap[g]? = some (.cells #[v0, v1, v2, v3, v4] 24 (0, 0)) :=
 bU (cs := #[v0, v1, v2, v3, o4]) (bU (cs := #[v0, v1, v2, o3, o4]) (bU (cs := #[v0, v1, o2, o3, o4]) (bU (cs := #[v0, o1, o2, o3, o4]) (bU (cs := #[o0, o1, o2, o3, o4]) h 0 _ rfl) 1 _ rfl) 2 _ rfl) 3 _ rfl) 4 _ rfl
theorem below24 {w W : World} {g : Nat} (h : Below w.heap.size w W) (v0 v1 v2 v3 v4 : Value) (hg : w.heap.size ≤ g := by omega) :
  Below w.heap.size w (((((W.setCell ⟨g, 0, none⟩ v0).setCell ⟨g, 1, none⟩ v1).setCell ⟨g, 2, none⟩ v2).setCell ⟨g, 3, none⟩ v3).setCell ⟨g, 4, none⟩ v4) :=
 below_set (below_set (below_set (below_set (below_set h hg) hg) hg) hg) hg
set_option maxHeartbeats 8000000 in
set_option maxRecDepth 100000 in
theorem step_Take.calls (k : Nat) (a0 : ByteArray) (r1 r2 r3 r4 : Int) (r5 r6 : ByteArray) (r7 : Int) (w : World) (h : step_Take.f k a0 = some (r1, r2, r3, r4, r5, r6, r7)) (HT : Tabs w) :
  Calls Tryd.prog 27 #[.string a0] w fun e w' => e = .returned (.tuple #[.agg #[.int .i64 r1, .int .i64 r2, .int .i64 r3, .int .u64 r4, .string r5], .string r6, .int .i64 r7]) ∧ Below w.heap.size w w' := by
 unfold step_Take.f at h
 obtain ⟨⟨n1, nl, nb⟩, A1, h⟩ := Option.bind_eq_some_iff.1 h
 obtain ⟨⟨t1, tl, tb⟩, A2, h⟩ := Option.bind_eq_some_iff.1 h
 replace A1 := Ax.mk A1
 replace A2 := Ax.mk A2
 have H := Ax.mk h
 clear h
 rename _ = _ => hjunk
 clear hjunk
 rename _ = _ => hjunk
 clear hjunk
 have HW := Ax.mk HT
 clear HT
 go_enter Tryd.func27, Tryd.ntmps27
 go_wp2_with (first | (go_at_call 55; fail) | (go_at_call 54; fail))
 have BK0 : (w.alloc (Obj.cells #[Value.int IntKind.i64 0, Value.int IntKind.i64 0, Value.int IntKind.i64 0, Value.int IntKind.u64 0, Value.string { data := #[] }] 24)).heap[w.heap.size]? = some (Obj.cells #[Value.int IntKind.i64 0, Value.int IntKind.i64 0, Value.int IntKind.i64 0, Value.int IntKind.u64 0, Value.string { data := #[] }] 24 (0, 0)) := heap_alloc_new w _
 have BK0' := blk_alloc BK0 (Obj.cells #[Value.string a0, Value.bool false] 96)
 refine (le_Reader_Number.calls _ a0 false 2 n1 nl nb w _ (by rw [show w.heap.size + 1 = (w.alloc (Obj.cells #[Value.int IntKind.i64 0, Value.int IntKind.i64 0, Value.int IntKind.i64 0, Value.int IntKind.u64 0, Value.string { data := #[] }] 24)).heap.size by simp]; exact IsS96.new w _ a0 false (below_alloc (Below.refl _ _) _)) (below_alloc (below_alloc (Below.refl _ _) _) _) A1.out).mono ?_
 rintro e w1 ⟨rfl, hI1, hB1, hK1⟩
 have BK1 := keep_blk hK1 BK0' (by omega)
 clear BK0 BK0' hK1
 replace hI1 := Ax.mk hI1
 replace hB1 := Ax.mk hB1
 replace BK1 := Ax.mk BK1
 go_wp2_with (first | (go_at_call 55; fail) | (go_at_call 54; fail))
 refine (le_Reader_Text.calls _ nl nb (wrap64 n1) t1 tl tb w w1 hI1.out hB1.out A2.out).mono ?_
 rintro e w2 ⟨rfl, hI2, hB2, hK2⟩
 have BK2 := keep_blk hK2 BK1.out (by omega)
 clear BK1 hI1 hB1 hK2 A1 A2
 have hc1 := cellS96_1 hI2.1
 replace hI2 := Ax.mk hI2
 replace hB2 := Ax.mk hB2
 cases tb with
 | true =>
  have H1 := H.out
  rw [if_pos rfl] at H1
  cases H1
  have b0 := (bC BK2 0).trans rfl
  have b1 := (bC BK2 1).trans rfl
  have b2 := (bC BK2 2).trans rfl
  have b3 := (bC BK2 3).trans rfl
  have b4 := (bC BK2 4).trans rfl
  have z0 := bF BK2 0
  have z1 := bF BK2 1
  have z2 := bF BK2 2
  have z3 := bF BK2 3
  have z4 := bF BK2 4
  replace BK2 := Ax.mk BK2
  go_wp2
  refine bodyPost_ret (results_ctt rfl _ _ w.heap.size 24 #[.int .i64 0, .int .i64 0, .int .i64 0, .int .u64 0, .string (⟨#[]⟩ : ByteArray)] (0, 0) _ rfl (put24 BK2.out _ _ _ _ _) Tryd.underlying24 rfl (by kernel_rfl)) rfl ?_
  exact ⟨rfl, below24 hB2.out _ _ _ _ _⟩
 | false =>
  have H1 := H.out
  rw [if_neg (by decide)] at H1
  obtain ⟨⟨s1, s2⟩, A3, H2⟩ := Option.bind_eq_some_iff.1 H1
  clear H H1
  replace A3 := Ax.mk A3
  have H := Ax.mk H2
  clear H2
  replace BK2 := Ax.mk BK2
  go_wp2_with (first | (go_at_call 56; fail))
  refine (seal_Take.calls t1 s1 s2 _ A3.out).mono ?_
  rintro e w3 ⟨rfl, hb3⟩
  have hI3 := hI2.out.below hb3
  have hB3 := bP hB2.out hb3
  have BK3 := bB BK2.out hb3
  clear A3 hI2 hB2 BK2 hc1 hb3
  have b0 := (bC BK3 0).trans rfl
  have b1 := (bC BK3 1).trans rfl
  have b2 := (bC BK3 2).trans rfl
  have b3 := (bC BK3 3).trans rfl
  have b4 := (bC BK3 4).trans rfl
  have z0 := bF BK3 0
  have z1 := bF BK3 1
  have z2 := bF BK3 2
  have z3 := bF BK3 3
  have z4 := bF BK3 4
  replace hI3 := Ax.mk hI3
  replace hB3 := Ax.mk hB3
  replace BK3 := Ax.mk BK3
  by_cases hs : s2 = 0
  ·subst hs
   have H1 := H.out
   rw [if_pos rfl] at H1
   obtain ⟨⟨n1_, l1_, d1_⟩, B1, H1⟩ := Option.bind_eq_some_iff.1 H1
   obtain ⟨⟨n2_, l2_, d2_⟩, B2, H1⟩ := Option.bind_eq_some_iff.1 H1
   obtain ⟨⟨n3_, l3_, d3_⟩, B3, H1⟩ := Option.bind_eq_some_iff.1 H1
   obtain ⟨⟨n4_, l4_, d4_⟩, B4, H1⟩ := Option.bind_eq_some_iff.1 H1
   obtain ⟨⟨x_, l5_, d5_⟩, B5, H1⟩ := Option.bind_eq_some_iff.1 H1
   clear H
   have H := Ax.mk H1
   clear H1
   replace B1 := Ax.mk B1
   replace B2 := Ax.mk B2
   replace B3 := Ax.mk B3
   replace B4 := Ax.mk B4
   replace B5 := Ax.mk B5
   clear b0 b1 b2 b3 b4 z0 z1 z2 z3 z4
   go_wp2_with (first | (go_at_call 55; fail))
   have hlt : w.heap.size + 1 < w3.heap.size := hI3.out.lt
   have J0 := IsS96.new w w3 s1 false hB3.out
   have R0 := hI3.out.alloc (Obj.cells #[Value.string s1, Value.bool false] 96)
   have K0 := blk_alloc BK3.out (Obj.cells #[Value.string s1, Value.bool false] 96)
   have D0 := below_alloc hB3.out (Obj.cells #[Value.string s1, Value.bool false] 96)
   clear hI3 hB3 BK3
   generalize w3.alloc (Obj.cells #[Value.string s1, Value.bool false] 96) = v0 at J0 R0 K0 D0 ⊢
   generalize w3.heap.size = gq at hlt J0 ⊢
   have HQ := Ax.mk hlt
   replace J0 := Ax.mk J0
   replace R0 := Ax.mk R0
   replace K0 := Ax.mk K0
   replace D0 := Ax.mk D0
   clear hlt
   refine (le_Reader_Number.calls gq s1 false 1 n1_ l1_ d1_ w _ J0.out D0.out B1.out).mono ?_
   rintro e v1 ⟨rfl, hJ, hD, hK⟩
   have hne := HQ.out
   have J1 := Ax.mk hJ
   have D1 := Ax.mk hD
   have R1 := Ax.mk (show IsS96 w v1 (w.heap.size + 1) tl false from ⟨keep_blk hK R0.out.1 (by omega), R0.out.2⟩)
   have K1 := Ax.mk (keep_blk hK K0.out (by omega))
   clear hJ hD hK hne J0 D0 R0 K0
   go_wp2_with (first | (go_at_call 55; fail))
   refine (le_Reader_Number.calls gq l1_ d1_ 4 n2_ l2_ d2_ w _ J1.out D1.out B2.out).mono ?_
   rintro e v2 ⟨rfl, hJ, hD, hK⟩
   have hne := HQ.out
   have J2 := Ax.mk hJ
   have D2 := Ax.mk hD
   have R2 := Ax.mk (show IsS96 w v2 (w.heap.size + 1) tl false from ⟨keep_blk hK R1.out.1 (by omega), R1.out.2⟩)
   have K2 := Ax.mk (keep_blk hK K1.out (by omega))
   clear hJ hD hK hne J1 D1 R1 K1
   go_wp2_with (first | (go_at_call 55; fail))
   refine (le_Reader_Number.calls gq l2_ d2_ 4 n3_ l3_ d3_ w _ J2.out D2.out B3.out).mono ?_
   rintro e v3 ⟨rfl, hJ, hD, hK⟩
   have hne := HQ.out
   have J3 := Ax.mk hJ
   have D3 := Ax.mk hD
   have R3 := Ax.mk (show IsS96 w v3 (w.heap.size + 1) tl false from ⟨keep_blk hK R2.out.1 (by omega), R2.out.2⟩)
   have K3 := Ax.mk (keep_blk hK K2.out (by omega))
   clear hJ hD hK hne J2 D2 R2 K2
   go_wp2_with (first | (go_at_call 55; fail))
   refine (le_Reader_Number.calls gq l3_ d3_ 8 n4_ l4_ d4_ w _ J3.out D3.out B4.out).mono ?_
   rintro e v4 ⟨rfl, hJ, hD, hK⟩
   have hne := HQ.out
   have J4 := Ax.mk hJ
   have D4 := Ax.mk hD
   have R4 := Ax.mk (show IsS96 w v4 (w.heap.size + 1) tl false from ⟨keep_blk hK R3.out.1 (by omega), R3.out.2⟩)
   have K4 := Ax.mk (keep_blk hK K3.out (by omega))
   clear hJ hD hK hne J3 D3 R3 K3
   have hc := fun o => cellS96_0 (J4.out.alloc o).1
   go_wp2_with (first | (go_at_call 54; fail))
   clear hc
   have hlt : gq < v4.heap.size := J4.out.lt
   have X0 := heap_alloc_new v4 (Obj.cells #[Value.int IntKind.i64 (wrap64 n1_), Value.int IntKind.i64 (wrap64 n2_), Value.int IntKind.i64 (wrap64 n3_), Value.int IntKind.u64 n4_, Value.string { data := #[] }] 24)
   have J5 := J4.out.alloc (Obj.cells #[Value.int IntKind.i64 (wrap64 n1_), Value.int IntKind.i64 (wrap64 n2_), Value.int IntKind.i64 (wrap64 n3_), Value.int IntKind.u64 n4_, Value.string { data := #[] }] 24)
   have R5 := R4.out.alloc (Obj.cells #[Value.int IntKind.i64 (wrap64 n1_), Value.int IntKind.i64 (wrap64 n2_), Value.int IntKind.i64 (wrap64 n3_), Value.int IntKind.u64 n4_, Value.string { data := #[] }] 24)
   have K5 := blk_alloc K4.out (Obj.cells #[Value.int IntKind.i64 (wrap64 n1_), Value.int IntKind.i64 (wrap64 n2_), Value.int IntKind.i64 (wrap64 n3_), Value.int IntKind.u64 n4_, Value.string { data := #[] }] 24)
   have D5 := below_alloc D4.out (Obj.cells #[Value.int IntKind.i64 (wrap64 n1_), Value.int IntKind.i64 (wrap64 n2_), Value.int IntKind.i64 (wrap64 n3_), Value.int IntKind.u64 n4_, Value.string { data := #[] }] 24)
   clear J4 R4 K4 D4
   generalize v4.alloc (Obj.cells #[Value.int IntKind.i64 (wrap64 n1_), Value.int IntKind.i64 (wrap64 n2_), Value.int IntKind.i64 (wrap64 n3_), Value.int IntKind.u64 n4_, Value.string { data := #[] }] 24) = v5 at X0 J5 R5 K5 D5 ⊢
   generalize v4.heap.size = gx at hlt X0 ⊢
   have HX := Ax.mk hlt
   clear hlt
   refine (le_Reader_Text.calls gq l4_ d4_ (l4_.size : Int) x_ l5_ d5_ w _ J5 D5 B5.out).mono ?_
   rintro e v6 ⟨rfl, hJ, hD, hK⟩
   have hne := HQ.out
   have hnx := HX.out
   have J6 := Ax.mk hJ
   have D6 := Ax.mk hD
   have R6 := Ax.mk (show IsS96 w v6 (w.heap.size + 1) tl false from ⟨keep_blk hK R5.1 (by omega), R5.2⟩)
   have K6 := Ax.mk (keep_blk hK K5 (by omega))
   have X6 := keep_blk hK X0 (by omega)
   clear hJ hD hK hne hnx J5 D5 R5 K5 X0
   have x0 := (bC X6 0).trans rfl
   have x1 := (bC X6 1).trans rfl
   have x2 := (bC X6 2).trans rfl
   have x3 := (bC X6 3).trans rfl
   have x4 := (bC X6 4).trans rfl
   have z4 := bF X6 4
   replace X6 := Ax.mk X6
   have q1 := cellS96_1 J6.out.1
   cases d5_ with
   | true =>
    have H1 := H.out
    rw [if_pos rfl] at H1
    cases H1
    have hgx : w.heap.size ≠ gx := by have h1 := HQ.out; have h2 := HX.out; omega
    have K7 : (v6.setCell { block := gx, off := 4 } (Value.string x_)).heap[w.heap.size]? = some (Obj.cells #[Value.int IntKind.i64 0, Value.int IntKind.i64 0, Value.int IntKind.i64 0, Value.int IntKind.u64 0, Value.string { data := #[] }] 24 (0, 0)) := bR K6.out hgx _
    have D7 : Below w.heap.size w (v6.setCell { block := gx, off := 4 } (Value.string x_)) := below_set D6.out (by have h1 := HQ.out; have h2 := HX.out; show w.heap.size ≤ gx; omega)
    have b0 := (bC K7 0).trans rfl
    have b1 := (bC K7 1).trans rfl
    have b2 := (bC K7 2).trans rfl
    have b3 := (bC K7 3).trans rfl
    have b4 := (bC K7 4).trans rfl
    have y0 := bF K7 0
    have y1 := bF K7 1
    have y2 := bF K7 2
    have y3 := bF K7 3
    have y4 := bF K7 4
    replace K7 := Ax.mk K7
    replace D7 := Ax.mk D7
    go_wp2
    refine bodyPost_ret (results_ctt rfl _ _ w.heap.size 24 #[.int .i64 0, .int .i64 0, .int .i64 0, .int .u64 0, .string (⟨#[]⟩ : ByteArray)] (0, 0) _ rfl (put24 K7.out _ _ _ _ _) Tryd.underlying24 rfl (by kernel_rfl)) rfl ?_
    exact ⟨rfl, below24 D7.out _ _ _ _ _⟩
   | false =>
    have H1 := H.out
    rw [if_neg (by decide)] at H1
    obtain ⟨ok, A9, H2⟩ := Option.bind_eq_some_iff.1 H1
    clear H H1
    have H := Ax.mk H2
    have A9 := Ax.mk A9
    clear H2
    go_wp2_with (first | (go_at_call 21; fail))
    have hgx : w.heap.size ≠ gx := by have h1 := HQ.out; have h2 := HX.out; omega
    have K7 : (v6.setCell { block := gx, off := 4 } (Value.string x_)).heap[w.heap.size]? = some (Obj.cells #[Value.int IntKind.i64 0, Value.int IntKind.i64 0, Value.int IntKind.i64 0, Value.int IntKind.u64 0, Value.string { data := #[] }] 24 (0, 0)) := bR K6.out hgx _
    have D7 : Below w.heap.size w (v6.setCell { block := gx, off := 4 } (Value.string x_)) := below_set D6.out (by have h1 := HQ.out; have h2 := HX.out; show w.heap.size ≤ gx; omega)
    have X7 : (v6.setCell { block := gx, off := 4 } (Value.string x_)).heap[gx]? = some (Obj.cells #[Value.int IntKind.i64 (wrap64 n1_), Value.int IntKind.i64 (wrap64 n2_), Value.int IntKind.i64 (wrap64 n3_), Value.int IntKind.u64 n4_, Value.string x_] 24 (0, 0)) := bU (cs := #[Value.int IntKind.i64 (wrap64 n1_), Value.int IntKind.i64 (wrap64 n2_), Value.int IntKind.i64 (wrap64 n3_), Value.int IntKind.u64 n4_, Value.string { data := #[] }]) X6.out 4 _ rfl
    have R7 : (v6.setCell { block := gx, off := 4 } (Value.string x_)).heap[w.heap.size + 1]? = some (Obj.cells #[Value.string tl, Value.bool false] 96 (0, 0)) := bR R6.out.1 (by have h1 := HQ.out; have h2 := HX.out; show w.heap.size + 1 ≠ gx; omega) _
    clear K6 D6 X6 R6 J6 q1 x0 x1 x2 x3 x4 z4
    generalize v6.setCell { block := gx, off := 4 } (Value.string x_) = v7 at K7 D7 X7 R7 ⊢
    refine (step_Right.calls k (wrap64 n1_) (wrap64 n2_) (wrap64 n3_) n4_ x_ ok _ A9.out (HW.out.below D7)).mono ?_
    rintro e v8 ⟨rfl, hb8⟩
    have K8 := bB K7 hb8
    have D8 := Ax.mk (bP D7 hb8)
    have X8 := bB X7 hb8
    have R8 := bB R7 hb8
    clear K7 D7 X7 R7 hb8
    cases ok with
    | false =>
     have H1 := H.out
     rw [if_neg (by decide)] at H1
     cases H1
     have b0 := (bC K8 0).trans rfl
     have y0 := bF K8 0
     have b1 := (bC K8 1).trans rfl
     have y1 := bF K8 1
     have b2 := (bC K8 2).trans rfl
     have y2 := bF K8 2
     have b3 := (bC K8 3).trans rfl
     have y3 := bF K8 3
     have b4 := (bC K8 4).trans rfl
     have y4 := bF K8 4
     replace K8 := Ax.mk K8
     replace X8 := Ax.mk X8
     replace R8 := Ax.mk R8
     go_wp2
     refine bodyPost_ret (results_ctt rfl _ _ w.heap.size 24 #[.int .i64 0, .int .i64 0, .int .i64 0, .int .u64 0, .string (⟨#[]⟩ : ByteArray)] (0, 0) _ rfl (put24 K8.out _ _ _ _ _) Tryd.underlying24 rfl (by kernel_rfl)) rfl ?_
     exact ⟨rfl, below24 D8.out _ _ _ _ _⟩
    | true =>
     have H1 := H.out
     rw [if_pos rfl] at H1
     cases H1
     have b0 := (bC K8 0).trans rfl
     have y0 := bF K8 0
     have b1 := (bC K8 1).trans rfl
     have y1 := bF K8 1
     have b2 := (bC K8 2).trans rfl
     have y2 := bF K8 2
     have b3 := (bC K8 3).trans rfl
     have y3 := bF K8 3
     have b4 := (bC K8 4).trans rfl
     have y4 := bF K8 4
     have x0 := (bC X8 0).trans rfl
     have x1 := (bC X8 1).trans rfl
     have x2 := (bC X8 2).trans rfl
     have x3 := (bC X8 3).trans rfl
     have x4 := (bC X8 4).trans rfl
     have q0 := cellS96_0 R8
     replace K8 := Ax.mk K8
     replace X8 := Ax.mk X8
     replace R8 := Ax.mk R8
     go_wp2
     have hgx' : gx ≠ w.heap.size := fun h => hgx h.symm
     have hg1 : w.heap.size + 1 ≠ w.heap.size := by omega
     refine start_ (n := 8) (S := fun w' => w'.cell? ⟨gx, 0, none⟩ = some (.int .i64 (wrap64 n1_)) ∧ w'.cell? ⟨gx, 1, none⟩ = some (.int .i64 (wrap64 n2_)) ∧ w'.cell? ⟨gx, 2, none⟩ = some (.int .i64 (wrap64 n3_)) ∧ w'.cell? ⟨gx, 3, none⟩ = some (.int .u64 r4) ∧ w'.cell? ⟨gx, 4, none⟩ = some (.string r5) ∧ w'.cell? ⟨w.heap.size + 1, 0, none⟩ = some (.string r6)) (ds := []) (TF 0 8) (by kernel_rfl) rfl rfl ⟨x0, x1, x2, x3, x4, q0⟩ (fun hHeld => ?_)
     refine with_tabW step_Take.tab13 step_Take.bits13 (fun HT_ HW_ => ?_)
     have K9 := blk_drew K8.out
     have D9 := below_drew1 D8.out
     clear b0 b1 b2 b3 b4 y0 y1 y2 y3 y4 x0 x1 x2 x3 x4 q0
     generalize v8.drew = v9 at K9 D9 hHeld ⊢
     clear K8 D8 X8 R8
     refine pure_ (i := 1) (N := some 67) (v := ?_) (a' := ?_) (BT 8 2) rfl rfl (any_of HT_.out (by kernel_rfl)) (fun _ _ _ h => h) (Or.inl ⟨by rfl, ?_⟩) ?_ ?_
     rotate_left; · intro w'; go_simp; with_reducible rfl
     rotate_left; · simp only [Act.put, sI, sZ, sS, i64_w, i32_w]; rfl
     refine pure_ (i := 2) (N := some 68) (v := ?_) (a' := ?_) (BT 8 6) rfl rfl (any_of HT_.out (by kernel_rfl)) (fun _ _ _ h => h) (Or.inl ⟨by rfl, ?_⟩) ?_ ?_
     rotate_left; · intro w'; go_simp; with_reducible rfl
     rotate_left; · simp only [Act.put, sI, sZ, sS, i64_w, i32_w]; rfl
     refine pure_ (i := 3) (N := some 69) (v := ?_) (a' := ?_) (BT 8 14) rfl rfl (any_of HT_.out (by kernel_rfl)) (fun _ _ _ h => h) (Or.inl ⟨by rfl, ?_⟩) ?_ ?_
     rotate_left; · intro w'; go_simp; with_reducible rfl
     rotate_left; · simp only [Act.put, sI, sZ, sS, i64_w, i32_w]; rfl
     refine take_ (i := 4) (N := some 70) (v := ?_) (a' := ?_) (BT 8 30) rfl rfl (take_ofW HT_.out HW_.out (by kernel_rfl)) (fun _ _ _ h => h) (Or.inl ⟨by rfl, ?_⟩) hHeld ?_ ?_
     rotate_left
     ·rintro w' ⟨s0, s1, s2, s3, s4, s5⟩
      go_simp
      with_reducible rfl
     rotate_left
     ·simp only [Act.put, sI, sZ, sS, i64_w, i32_w]
      rfl
     refine take_ (i := 0) (N := some 66) (v := ?_) (a' := ?_) (TF 5 3) rfl rfl (take_ofW HT_.out HW_.out (by kernel_rfl)) (fun _ _ _ h => h) (Or.inl ⟨by rfl, ?_⟩) hHeld ?_ ?_
     rotate_left
     ·rintro w' ⟨s0, s1, s2, s3, s4, s5⟩
      go_simp
      with_reducible rfl
     rotate_left
     ·simp only [Act.put, sI, sZ, sS, i64_w, i32_w]
      rfl
     refine one_ (i := 5) (N := none) (TF 6 2) rfl rfl (one_of HT_.out (by kernel_rfl)) (by decide) (fun K hK => ?_)
     have b0 := (bC K9 0).trans rfl
     have b1 := (bC K9 1).trans rfl
     have b2 := (bC K9 2).trans rfl
     have b3 := (bC K9 3).trans rfl
     have b4 := (bC K9 4).trans rfl
     have y0 := bF K9 0
     have y1 := bF K9 1
     have y2 := bF K9 2
     have y3 := bF K9 3
     have y4 := bF K9 4
     have K8 := Ax.mk K9
     have D8 := Ax.mk D9
     clear K9 D9
     refine skip_ (w1 := ?_) (by rfl) rfl ?_ ?_
     rotate_left
     ·go_simp
      rfl
     refine hK.out _ _ ⟨((cell_far (p := ⟨w.heap.size, _, none⟩) hgx' _).trans ((cell_far (p := ⟨w.heap.size, _, none⟩) hgx' _).trans ((cell_far (p := ⟨w.heap.size, _, none⟩) hgx' _).trans ((cell_far (p := ⟨w.heap.size, _, none⟩) hgx' _).trans ((cell_far (p := ⟨w.heap.size, _, none⟩) hgx' _).trans hHeld.1))))), ((cell_far (p := ⟨w.heap.size, _, none⟩) hgx' _).trans ((cell_far (p := ⟨w.heap.size, _, none⟩) hgx' _).trans ((cell_far (p := ⟨w.heap.size, _, none⟩) hgx' _).trans ((cell_far (p := ⟨w.heap.size, _, none⟩) hgx' _).trans ((cell_far (p := ⟨w.heap.size, _, none⟩) hgx' _).trans hHeld.2.1))))), ((cell_far (p := ⟨w.heap.size, _, none⟩) hgx' _).trans ((cell_far (p := ⟨w.heap.size, _, none⟩) hgx' _).trans ((cell_far (p := ⟨w.heap.size, _, none⟩) hgx' _).trans ((cell_far (p := ⟨w.heap.size, _, none⟩) hgx' _).trans ((cell_far (p := ⟨w.heap.size, _, none⟩) hgx' _).trans hHeld.2.2.1))))), ((cell_far (p := ⟨w.heap.size, _, none⟩) hgx' _).trans ((cell_far (p := ⟨w.heap.size, _, none⟩) hgx' _).trans ((cell_far (p := ⟨w.heap.size, _, none⟩) hgx' _).trans ((cell_far (p := ⟨w.heap.size, _, none⟩) hgx' _).trans ((cell_far (p := ⟨w.heap.size, _, none⟩) hgx' _).trans hHeld.2.2.2.1))))), ((cell_far (p := ⟨w.heap.size, _, none⟩) hgx' _).trans ((cell_far (p := ⟨w.heap.size, _, none⟩) hgx' _).trans ((cell_far (p := ⟨w.heap.size, _, none⟩) hgx' _).trans ((cell_far (p := ⟨w.heap.size, _, none⟩) hgx' _).trans ((cell_far (p := ⟨w.heap.size, _, none⟩) hgx' _).trans hHeld.2.2.2.2.1))))), ((cell_far (p := ⟨w.heap.size, _, none⟩) hg1 _).trans ((cell_far (p := ⟨w.heap.size, _, none⟩) hg1 _).trans ((cell_far (p := ⟨w.heap.size, _, none⟩) hg1 _).trans ((cell_far (p := ⟨w.heap.size, _, none⟩) hg1 _).trans ((cell_far (p := ⟨w.heap.size, _, none⟩) hg1 _).trans hHeld.2.2.2.2.2)))))⟩ (fun hHeld => ?_)
     clear hK K
     refine pure_ (i := 6) (N := some 3) (v := ?_) (a' := ?_) (TF 7 1) rfl rfl (any_of HT_.out (by kernel_rfl)) (fun _ _ _ h => h) (Or.inl ⟨by rfl, ?_⟩) ?_ ?_
     rotate_left; · intro w'; go_simp; with_reducible rfl
     rotate_left; · simp only [Act.put, sI, sZ, sS, i64_w, i32_w]; rfl
     refine pure_ (i := 7) (N := some 4) (v := ?_) (a' := ?_) (TF 8 0) rfl rfl (any_of HT_.out (by kernel_rfl)) (fun _ _ _ h => h) (Or.inl ⟨by rfl, ?_⟩) ?_ ?_
     rotate_left; · intro w'; go_simp; with_reducible rfl
     rotate_left; · simp only [Act.put, sI, sZ, sS, i64_w, i32_w]; rfl
     refine done_ (done_of HT_.out (by kernel_rfl)) ?_
     try go_wp2
     refine bodyPost_ret (results_ctt rfl _ _ w.heap.size 24 #[.int .i64 (wrap64 n1_), .int .i64 (wrap64 n2_), .int .i64 (wrap64 n3_), .int .u64 r4, .string r5] (0, 0) _ rfl (put24 K8.out _ _ _ _ _) Tryd.underlying24 rfl (by kernel_rfl)) rfl ?_
     exact ⟨rfl, below24 D8.out _ _ _ _ _⟩
  ·have H1 := H.out
   rw [if_neg hs] at H1
   cases H1
   have c1 : (r7 == 0) = false := beq_eq_false_iff_ne.mpr hs
   have c2 : (r7 != 0) = true := bne_iff_ne.mpr hs
   clear hs
   go_wp2
   refine bodyPost_ret (results_ctt rfl _ _ w.heap.size 24 #[.int .i64 0, .int .i64 0, .int .i64 0, .int .u64 0, .string (⟨#[]⟩ : ByteArray)] (0, 0) _ rfl (put24 BK3.out _ _ _ _ _) Tryd.underlying24 rfl (by kernel_rfl)) rfl ?_
   exact ⟨rfl, below24 hB3.out _ _ _ _ _⟩
end Go.Proofs.YtboommbclbjlnaaDoor.Fn
end
