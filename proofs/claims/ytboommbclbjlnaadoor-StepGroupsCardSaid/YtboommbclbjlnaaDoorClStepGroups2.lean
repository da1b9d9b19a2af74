-- Packed by pack.py, a program of this session, out of texts of this claim.
import Derived.Test.YtboommbclbjlnaaDoorClStepGroups1
import Derived.Lib.SliceRun
import Derived.Lib.Walk
import Derived.Deep.LoopGhost
section
-- Written by printx.py, a program of this session over the kit's print: each Go function as a plain Lean function, and that the Go code computes it.




namespace Go.Proofs.YtboommbclbjlnaaDoor.Fn
open Go.RowKit Go.Proofs.YtboommbclbjlnaaDoorW.PrintWords Go.Proofs.YtboommbclbjlnaaDoorW.PrintLast Go.Proofs.YtboommbclbjlnaaDoorW.PrintMore Go.Proofs.YtboommbclbjlnaaDoor.Lf
attribute [local go_sem] max2_int min2_int max_two min_two max_three min_three max_four min_four   -- for this text's walks alone
set_option linter.unusedVariables false
set_option linter.unusedSimpArgs false

/-! ### rootcellarref12_Put: function 20 -/
def rootcellarref12_Put.f (k : Nat) (a0_0 : Int) (a0_1 : Int) (a0_2 : Int) (a0_3 : Int) (a0_4 : ByteArray) : Option (ByteArray × Int) := (rootcellarref12_Right.f k a0_0 a0_1 a0_2 a0_3 a0_4).bind fun t142 => (if t142 = true then ((rootcellarref2_Put.f k (IntKind.u64.wrap (a0_0)) 1).bind fun t143 => ((rootcellarref2_Put.f k (IntKind.u64.wrap (a0_1)) 4).bind fun t144 => (if t143.size + t144.size ≤ 9223372036854775807 then ((rootcellarref2_Put.f k (IntKind.u64.wrap (a0_2)) 4).bind fun t145 => (if t143.size + t144.size + t145.size ≤ 9223372036854775807 then ((rootcellarref2_Put.f k a0_3 8).bind fun t146 => (if t143.size + t144.size + t145.size + t146.size ≤ 9223372036854775807 then (if t143.size + t144.size + t145.size + t146.size + a0_4.size ≤ 9223372036854775807 then ((rootcellarref3_Put.f k ((((t143 ++ t144) ++ t145) ++ t146) ++ a0_4)).bind fun t147 => ((rootcellarref2_Put.f k (IntKind.u64.wrap ((t147.size : Int))) 2).bind fun t148 => (if t148.size + t147.size ≤ 9223372036854775807 then (some (t148 ++ t147, 0)) else (none)))) else (none)) else (none))) else (none))) else (none)))) else (some ((⟨#[]⟩ : ByteArray), 1)))
theorem rootcellarref12_Put.mono : ∀ a0 a1 a2 a3 a4 k, LeO (rootcellarref12_Put.f k a0 a1 a2 a3 a4) (rootcellarref12_Put.f (k + 1) a0 a1 a2 a3 a4) := by
 intro a0 a1 a2 a3 a4 k
 unfold rootcellarref12_Put.f
 repeat' first
   | (with_reducible exact rootcellarref12_Right.mono _ _ _ _ _ _)
   | (with_reducible exact rootcellarref2_Put.mono _ _ _)
   | (with_reducible exact rootcellarref3_Put.mono _ _)
   | (with_reducible exact LeO.refl _)
   | (with_reducible exact LeO.none _)
   | (with_reducible refine LeO.ite ?_ ?_)
   | (with_reducible refine LeO.bind ?_ (fun _ => ?_))
   | exact rootcellarref12_Right.mono _ _ _ _ _ _
   | exact rootcellarref2_Put.mono _ _ _
   | exact rootcellarref3_Put.mono _ _
   | exact LeO.none _
   | refine LeO.ite ?_ ?_
   | refine LeO.bind ?_ (fun _ => ?_)
def rootcellarref12_Put.T4 : Bool × List (List Nat × List Nat) := (true, [([], []), ([0], [0]), ([1], [1]), ([2], [2]), ([], []), ([4], [4]), ([5], [5]), ([6, 3], [6]), ([3, 7], [3, 7]), ([], []), ([9], [9]), ([10], [10]), ([11, 7], [11]), ([8, 12], [8, 12]), ([], []), ([14], [14]), ([15, 12], [15]), ([13, 16], [13, 16]), ([], []), ([18], [18]), ([17, 19], [17, 19]), ([20, 16], [20]), ([21, 21, 0, 1, 2, 3, 4, 5, 6, 7, 8, 9, 10, 11, 12, 13, 14, 15, 16, 17, 18, 19, 20, 21], [21])])
def rootcellarref12_Put.B4 : List Nat := [0, 1, 3, 7, 0, 16, 48, 127, 255, 0, 512, 1536, 3839, 8191, 0, 16384, 57087, 131071, 0, 262144, 1048575, 2097151, 4194303]
theorem rootcellarref12_Put.tab4 : rtab .any (opsOf Tryd.f20 4) = rootcellarref12_Put.T4 := by kernel_rfl
theorem rootcellarref12_Put.bits4 : waitsOk rootcellarref12_Put.T4.2 rootcellarref12_Put.B4 = true := by kernel_rfl
set_option maxHeartbeats 8000000 in
set_option maxRecDepth 100000 in
theorem rootcellarref12_Put.calls (k : Nat) (a0_0 : Int) (a0_1 : Int) (a0_2 : Int) (a0_3 : Int) (a0_4 : ByteArray) (r1 : ByteArray) (r2 : Int) (w : World) (h : rootcellarref12_Put.f k a0_0 a0_1 a0_2 a0_3 a0_4 = some (r1, r2)) :
  Calls Tryd.prog 20 #[.agg #[.int .i64 a0_0, .int .i64 a0_1, .int .i64 a0_2, .int .u64 a0_3, .string a0_4]] w fun e w' => e = .returned (.tuple #[.string r1, .int .i64 r2]) ∧ Below w.heap.size w w' := by
 have hu26 := Tryd.underlying26
 have HB := Aside0.mk (Below.refl w.heap.size w)
 have H : ((rootcellarref12_Right.f k a0_0 a0_1 a0_2 a0_3 a0_4).bind fun t142 => (if t142 = true then ((rootcellarref2_Put.f k (IntKind.u64.wrap (a0_0)) 1).bind fun t143 => ((rootcellarref2_Put.f k (IntKind.u64.wrap (a0_1)) 4).bind fun t144 => (if t143.size + t144.size ≤ 9223372036854775807 then ((rootcellarref2_Put.f k (IntKind.u64.wrap (a0_2)) 4).bind fun t145 => (if t143.size + t144.size + t145.size ≤ 9223372036854775807 then ((rootcellarref2_Put.f k a0_3 8).bind fun t146 => (if t143.size + t144.size + t145.size + t146.size ≤ 9223372036854775807 then (if t143.size + t144.size + t145.size + t146.size + a0_4.size ≤ 9223372036854775807 then ((rootcellarref3_Put.f k ((((t143 ++ t144) ++ t145) ++ t146) ++ a0_4)).bind fun t147 => ((rootcellarref2_Put.f k (IntKind.u64.wrap ((t147.size : Int))) 2).bind fun t148 => (if t148.size + t147.size ≤ 9223372036854775807 then (some (t148 ++ t147, 0)) else (none)))) else (none)) else (none))) else (none))) else (none)))) else (some ((⟨#[]⟩ : ByteArray), 1)))) = some (r1, r2) := h
 clear h
 replace H := Option.bind_eq_some_iff.mp H
 obtain ⟨t142, A20, H⟩ := H
 replace H : (if t142 = true then ((rootcellarref2_Put.f k (IntKind.u64.wrap (a0_0)) 1).bind fun t143 => ((rootcellarref2_Put.f k (IntKind.u64.wrap (a0_1)) 4).bind fun t144 => (if t143.size + t144.size ≤ 9223372036854775807 then ((rootcellarref2_Put.f k (IntKind.u64.wrap (a0_2)) 4).bind fun t145 => (if t143.size + t144.size + t145.size ≤ 9223372036854775807 then ((rootcellarref2_Put.f k a0_3 8).bind fun t146 => (if t143.size + t144.size + t145.size + t146.size ≤ 9223372036854775807 then (if t143.size + t144.size + t145.size + t146.size + a0_4.size ≤ 9223372036854775807 then ((rootcellarref3_Put.f k ((((t143 ++ t144) ++ t145) ++ t146) ++ a0_4)).bind fun t147 => ((rootcellarref2_Put.f k (IntKind.u64.wrap ((t147.size : Int))) 2).bind fun t148 => (if t148.size + t147.size ≤ 9223372036854775807 then (some (t148 ++ t147, 0)) else (none)))) else (none)) else (none))) else (none))) else (none)))) else (some ((⟨#[]⟩ : ByteArray), 1))) = some (r1, r2) := H
 have A2 := Aside0.mk A20
 clear A20
 by_cases c3 : t142 = true
 ·subst c3
  have H1 : ((rootcellarref2_Put.f k (IntKind.u64.wrap (a0_0)) 1).bind fun t143 => ((rootcellarref2_Put.f k (IntKind.u64.wrap (a0_1)) 4).bind fun t144 => (if t143.size + t144.size ≤ 9223372036854775807 then ((rootcellarref2_Put.f k (IntKind.u64.wrap (a0_2)) 4).bind fun t145 => (if t143.size + t144.size + t145.size ≤ 9223372036854775807 then ((rootcellarref2_Put.f k a0_3 8).bind fun t146 => (if t143.size + t144.size + t145.size + t146.size ≤ 9223372036854775807 then (if t143.size + t144.size + t145.size + t146.size + a0_4.size ≤ 9223372036854775807 then ((rootcellarref3_Put.f k ((((t143 ++ t144) ++ t145) ++ t146) ++ a0_4)).bind fun t147 => ((rootcellarref2_Put.f k (IntKind.u64.wrap ((t147.size : Int))) 2).bind fun t148 => (if t148.size + t147.size ≤ 9223372036854775807 then (some (t148 ++ t147, 0)) else (none)))) else (none)) else (none))) else (none))) else (none)))) = some (r1, r2) := by rw [if_pos rfl] at H; exact H
  clear H
  have H := H1
  clear H1
  replace H := Option.bind_eq_some_iff.mp H
  obtain ⟨t143, A40, H⟩ := H
  replace H : ((rootcellarref2_Put.f k (IntKind.u64.wrap (a0_1)) 4).bind fun t144 => (if t143.size + t144.size ≤ 9223372036854775807 then ((rootcellarref2_Put.f k (IntKind.u64.wrap (a0_2)) 4).bind fun t145 => (if t143.size + t144.size + t145.size ≤ 9223372036854775807 then ((rootcellarref2_Put.f k a0_3 8).bind fun t146 => (if t143.size + t144.size + t145.size + t146.size ≤ 9223372036854775807 then (if t143.size + t144.size + t145.size + t146.size + a0_4.size ≤ 9223372036854775807 then ((rootcellarref3_Put.f k ((((t143 ++ t144) ++ t145) ++ t146) ++ a0_4)).bind fun t147 => ((rootcellarref2_Put.f k (IntKind.u64.wrap ((t147.size : Int))) 2).bind fun t148 => (if t148.size + t147.size ≤ 9223372036854775807 then (some (t148 ++ t147, 0)) else (none)))) else (none)) else (none))) else (none))) else (none))) = some (r1, r2) := H
  have A4 := Aside0.mk A40
  clear A40
  replace H := Option.bind_eq_some_iff.mp H
  obtain ⟨t144, A50, H⟩ := H
  replace H : (if t143.size + t144.size ≤ 9223372036854775807 then ((rootcellarref2_Put.f k (IntKind.u64.wrap (a0_2)) 4).bind fun t145 => (if t143.size + t144.size + t145.size ≤ 9223372036854775807 then ((rootcellarref2_Put.f k a0_3 8).bind fun t146 => (if t143.size + t144.size + t145.size + t146.size ≤ 9223372036854775807 then (if t143.size + t144.size + t145.size + t146.size + a0_4.size ≤ 9223372036854775807 then ((rootcellarref3_Put.f k ((((t143 ++ t144) ++ t145) ++ t146) ++ a0_4)).bind fun t147 => ((rootcellarref2_Put.f k (IntKind.u64.wrap ((t147.size : Int))) 2).bind fun t148 => (if t148.size + t147.size ≤ 9223372036854775807 then (some (t148 ++ t147, 0)) else (none)))) else (none)) else (none))) else (none))) else (none)) = some (r1, r2) := H
  have A5 := Aside0.mk A50
  clear A50
  by_cases c6 : t143.size + t144.size ≤ 9223372036854775807
  ·rw [if_pos c6] at H
   have c6b0 := eq_true c6
   have c6b1 : decide (t143.size + t144.size ≤ 9223372036854775807) = true := decide_eq_true c6
   try have c6b2 : (9223372036854775807 < t143.size + t144.size) = False := eq_false (Nat.not_lt.2 c6)
   replace H := Option.bind_eq_some_iff.mp H
   obtain ⟨t145, A70, H⟩ := H
   replace H : (if t143.size + t144.size + t145.size ≤ 9223372036854775807 then ((rootcellarref2_Put.f k a0_3 8).bind fun t146 => (if t143.size + t144.size + t145.size + t146.size ≤ 9223372036854775807 then (if t143.size + t144.size + t145.size + t146.size + a0_4.size ≤ 9223372036854775807 then ((rootcellarref3_Put.f k ((((t143 ++ t144) ++ t145) ++ t146) ++ a0_4)).bind fun t147 => ((rootcellarref2_Put.f k (IntKind.u64.wrap ((t147.size : Int))) 2).bind fun t148 => (if t148.size + t147.size ≤ 9223372036854775807 then (some (t148 ++ t147, 0)) else (none)))) else (none)) else (none))) else (none)) = some (r1, r2) := H
   have A7 := Aside0.mk A70
   clear A70
   by_cases c8 : t143.size + t144.size + t145.size ≤ 9223372036854775807
   ·rw [if_pos c8] at H
    have c8b0 := eq_true c8
    have c8b1 : decide (t143.size + t144.size + t145.size ≤ 9223372036854775807) = true := decide_eq_true c8
    try have c8b2 : (9223372036854775807 < t143.size + t144.size + t145.size) = False := eq_false (Nat.not_lt.2 c8)
    replace H := Option.bind_eq_some_iff.mp H
    obtain ⟨t146, A90, H⟩ := H
    replace H : (if t143.size + t144.size + t145.size + t146.size ≤ 9223372036854775807 then (if t143.size + t144.size + t145.size + t146.size + a0_4.size ≤ 9223372036854775807 then ((rootcellarref3_Put.f k ((((t143 ++ t144) ++ t145) ++ t146) ++ a0_4)).bind fun t147 => ((rootcellarref2_Put.f k (IntKind.u64.wrap ((t147.size : Int))) 2).bind fun t148 => (if t148.size + t147.size ≤ 9223372036854775807 then (some (t148 ++ t147, 0)) else (none)))) else (none)) else (none)) = some (r1, r2) := H
    have A9 := Aside0.mk A90
    clear A90
    by_cases c10 : t143.size + t144.size + t145.size + t146.size ≤ 9223372036854775807
    ·rw [if_pos c10] at H
     have c10b0 := eq_true c10
     have c10b1 : decide (t143.size + t144.size + t145.size + t146.size ≤ 9223372036854775807) = true := decide_eq_true c10
     try have c10b2 : (9223372036854775807 < t143.size + t144.size + t145.size + t146.size) = False := eq_false (Nat.not_lt.2 c10)
     by_cases c11 : t143.size + t144.size + t145.size + t146.size + a0_4.size ≤ 9223372036854775807
     ·rw [if_pos c11] at H
      have c11b0 := eq_true c11
      have c11b1 : decide (t143.size + t144.size + t145.size + t146.size + a0_4.size ≤ 9223372036854775807) = true := decide_eq_true c11
      try have c11b2 : (9223372036854775807 < t143.size + t144.size + t145.size + t146.size + a0_4.size) = False := eq_false (Nat.not_lt.2 c11)
      replace H := Option.bind_eq_some_iff.mp H
      obtain ⟨t147, A120, H⟩ := H
      replace H : ((rootcellarref2_Put.f k (IntKind.u64.wrap ((t147.size : Int))) 2).bind fun t148 => (if t148.size + t147.size ≤ 9223372036854775807 then (some (t148 ++ t147, 0)) else (none))) = some (r1, r2) := H
      have A12 := Aside0.mk A120
      clear A120
      replace H := Option.bind_eq_some_iff.mp H
      obtain ⟨t148, A130, H⟩ := H
      replace H : (if t148.size + t147.size ≤ 9223372036854775807 then (some (t148 ++ t147, 0)) else (none)) = some (r1, r2) := H
      have A13 := Aside0.mk A130
      clear A130
      by_cases c14 : t148.size + t147.size ≤ 9223372036854775807
      ·rw [if_pos c14] at H
       have c14b0 := eq_true c14
       have c14b1 : decide (t148.size + t147.size ≤ 9223372036854775807) = true := decide_eq_true c14
       try have c14b2 : (9223372036854775807 < t148.size + t147.size) = False := eq_false (Nat.not_lt.2 c14)
       simp only [Option.some.injEq, Prod.mk.injEq] at H
       obtain ⟨rfl, rfl⟩ := H
       go_enter Tryd.func20, Tryd.ntmps20
       try go_wp2_with (first | ((with_reducible refine gate_dst (N := 1) rfl ?_); refine box_event ?hg (N := 1) ?hd (cs := #[.int .i64 a0_0, .int .i64 a0_1, .int .i64 a0_2, .int .u64 a0_3, .string a0_4]) (t := 26) ?hr ?_; (case hd => rfl); (case hg => rfl); (case hr => first | (go_simp; done) | (go_simp; rfl)); intro gb141 hg w15 hbox hb; have n0_ := Aside0.mk (below_step (by repeat (first | (with_reducible first | exact HB.out | apply below_alloc | apply pw_below_drewN | apply below_drew1) | exact HB.out)) hb); have n1_ := Aside0.mk (hbox); have n2_ := Aside0.mk ((by rw [hg]; exact (below_size (by repeat (first | (with_reducible first | exact HB.out | apply below_alloc | apply pw_below_drewN | apply below_drew1) | exact HB.out))) : w.heap.size ≤ gb141)); have n3_ := Aside0.mk ((by rw [hg]; exact (below_size (by repeat (first | (with_reducible first | exact HB.out | apply below_alloc | apply pw_below_drewN | apply below_drew1) | exact HB.out))) : w.heap.size ≤ gb141)); clear HB; have HB := n0_; have BK141 := n1_; have GW141 := n2_; have GE141 := n3_; clear n0_ n1_ n2_ n3_; clear hb hbox hg; have hcz16_0 : w15.cell? ⟨gb141, 0, none⟩ = some (.int .i64 a0_0) := (blk_cell BK141.out 0).trans rfl; have hcz16_1 : w15.cell? ⟨gb141, 1, none⟩ = some (.int .i64 a0_1) := (blk_cell BK141.out 1).trans rfl; have hcz16_2 : w15.cell? ⟨gb141, 2, none⟩ = some (.int .i64 a0_2) := (blk_cell BK141.out 2).trans rfl; have hcz16_3 : w15.cell? ⟨gb141, 3, none⟩ = some (.int .u64 a0_3) := (blk_cell BK141.out 3).trans rfl; have hcz16_4 : w15.cell? ⟨gb141, 4, none⟩ = some (.string a0_4) := (blk_cell BK141.out 4).trans rfl; have hfz16_0 := blk_frozen BK141.out 0; have hfz16_1 := blk_frozen BK141.out 1; have hfz16_2 := blk_frozen BK141.out 2; have hfz16_3 := blk_frozen BK141.out 3; have hfz16_4 := blk_frozen BK141.out 4) | ((with_reducible refine gate_callee (f := 22) rfl ?_); refine goesL_ (some 7) rfl rfl Tryd.func22 (by kernel_rfl) rfl #[.agg #[.int .i64 a0_0, .int .i64 a0_1, .int .i64 a0_2, .int .u64 a0_3, .string a0_4]] rfl (by (try simp only [List.map_toArray, List.map_cons, List.map_nil]); first | done | rfl | (simp only [List.length_drop, List.length_take]; rfl) | (rw [wrap_sum2 (by assumption)]; rfl)) ?_; (with_reducible refine (rootcellarref12_Right.calls k a0_0 a0_1 a0_2 a0_3 a0_4 true _ A2.out).mono ?_); rintro e w17 ⟨rfl, hb⟩; refine ⟨_, rfl, ?_⟩; have n0_ := Aside0.mk (blk_below (g := gb141) (o := .cells #[.int .i64 a0_0, .int .i64 a0_1, .int .i64 a0_2, .int .u64 a0_3, .string a0_4] 26 (0, 0)) (by (with_reducible repeat (first | refine blk_drewN ?_ _ | refine blk_drew ?_ | refine blk_alloc ?_ _)); exact BK141.out) hb); have n1_ := Aside0.mk (below_step (by repeat (first | (with_reducible first | exact HB.out | apply below_alloc | apply pw_below_drewN | apply below_drew1 | refine below_set ?_ GE141.out) | exact HB.out)) hb); clear BK141; clear HB; have BK141 := n0_; have HB := n1_; clear n0_ n1_; (try clear hb); (try clear hb2); (try clear hk); (try clear hi)))
       have n0_ := Aside0.mk (blk_drew BK141.out)
       have n1_ := Aside0.mk (below_drew1 HB.out)
       clear BK141
       clear HB
       have BK141 := n0_
       have HB := n1_
       clear n0_ n1_
       refine start_ (n := 23) (S := fun w' => w'.cell? ⟨gb141, 0, none⟩ = some (.int .i64 a0_0) ∧ w'.cell? ⟨gb141, 1, none⟩ = some (.int .i64 a0_1) ∧ w'.cell? ⟨gb141, 2, none⟩ = some (.int .i64 a0_2) ∧ w'.cell? ⟨gb141, 3, none⟩ = some (.int .u64 a0_3) ∧ w'.cell? ⟨gb141, 4, none⟩ = some (.string a0_4)) (ds := []) #[false, false, false, false, false, false, false, false, false, false, false, false, false, false, false, false, false, false, false, false, false, false, false] (by kernel_rfl) rfl rfl ⟨(blk_cell BK141.out 0).trans rfl, (blk_cell BK141.out 1).trans rfl, (blk_cell BK141.out 2).trans rfl, (blk_cell BK141.out 3).trans rfl, (blk_cell BK141.out 4).trans rfl⟩ (fun hHeld => ?_); refine with_tabW rootcellarref12_Put.tab4 rootcellarref12_Put.bits4 (fun HT_ HW_ => ?_)
       generalize w17.drew = w18 at BK141 HB hHeld ⊢
       refine pure_ (i := 0) (N := some 10) (v := ?_) (a' := ?_) #[true, false, false, false, false, false, false, false, false, false, false, false, false, false, false, false, false, false, false, false, false, false, false] rfl rfl (any_of HT_.out (by kernel_rfl)) (fun _ _ _ h => h) (Or.inl ⟨by rfl, ?_⟩) ?_ ?_
       rotate_left
       ·intro w'
        go_simp
        with_reducible rfl
       rotate_left
       ·simp only [Act.put, List.setIfInBounds_toArray, List.set_cons_zero, List.set_cons_succ, i64_w, i32_w]
        rfl
       refine pure_ (i := 4) (N := some 14) (v := ?_) (a' := ?_) #[true, false, false, false, true, false, false, false, false, false, false, false, false, false, false, false, false, false, false, false, false, false, false] rfl rfl (any_of HT_.out (by kernel_rfl)) (fun _ _ _ h => h) (Or.inl ⟨by rfl, ?_⟩) ?_ ?_
       rotate_left
       ·intro w'
        go_simp
        with_reducible rfl
       rotate_left
       ·simp only [Act.put, List.setIfInBounds_toArray, List.set_cons_zero, List.set_cons_succ, i64_w, i32_w]
        rfl
       refine pure_ (i := 9) (N := some 19) (v := ?_) (a' := ?_) #[true, false, false, false, true, false, false, false, false, true, false, false, false, false, false, false, false, false, false, false, false, false, false] rfl rfl (any_of HT_.out (by kernel_rfl)) (fun _ _ _ h => h) (Or.inl ⟨by rfl, ?_⟩) ?_ ?_
       rotate_left
       ·intro w'
        go_simp
        with_reducible rfl
       rotate_left
       ·simp only [Act.put, List.setIfInBounds_toArray, List.set_cons_zero, List.set_cons_succ, i64_w, i32_w]
        rfl
       refine pure_ (i := 14) (N := some 24) (v := ?_) (a' := ?_) #[true, false, false, false, true, false, false, false, false, true, false, false, false, false, true, false, false, false, false, false, false, false, false] rfl rfl (any_of HT_.out (by kernel_rfl)) (fun _ _ _ h => h) (Or.inl ⟨by rfl, ?_⟩) ?_ ?_
       rotate_left
       ·intro w'
        go_simp
        with_reducible rfl
       rotate_left
       ·simp only [Act.put, List.setIfInBounds_toArray, List.set_cons_zero, List.set_cons_succ, i64_w, i32_w]
        rfl
       refine pure_ (i := 18) (N := some 28) (v := ?_) (a' := ?_) #[true, false, false, false, true, false, false, false, false, true, false, false, false, false, true, false, false, false, true, false, false, false, false] rfl rfl (any_of HT_.out (by kernel_rfl)) (fun _ _ _ h => h) (Or.inl ⟨by rfl, ?_⟩) ?_ ?_
       rotate_left
       ·intro w'
        go_simp
        with_reducible rfl
       rotate_left
       ·simp only [Act.put, List.setIfInBounds_toArray, List.set_cons_zero, List.set_cons_succ, i64_w, i32_w]
        rfl
       refine take_ (i := 1) (N := some 11) (v := ?_) (a' := ?_) #[true, true, false, false, true, false, false, false, false, true, false, false, false, false, true, false, false, false, true, false, false, false, false] rfl rfl (take_ofW HT_.out HW_.out (by kernel_rfl)) (fun _ _ _ h => h) (Or.inl ⟨by rfl, ?_⟩) hHeld ?_ ?_
       rotate_left
       ·rintro w' ⟨s0, s1, s2, s3, s4⟩
        go_simp
        with_reducible rfl
       rotate_left
       ·simp only [Act.put, List.setIfInBounds_toArray, List.set_cons_zero, List.set_cons_succ, i64_w, i32_w]
        rfl
       refine pure_ (i := 2) (N := some 12) (v := ?_) (a' := ?_) #[true, true, true, false, true, false, false, false, false, true, false, false, false, false, true, false, false, false, true, false, false, false, false] rfl rfl (any_of HT_.out (by kernel_rfl)) (fun _ _ _ h => h) (Or.inl ⟨by rfl, ?_⟩) ?_ ?_
       rotate_left
       ·intro w'
        go_simp
        with_reducible rfl
       rotate_left
       ·simp only [Act.put, List.setIfInBounds_toArray, List.set_cons_zero, List.set_cons_succ, i64_w, i32_w]
        rfl
       refine take_ (i := 5) (N := some 15) (v := ?_) (a' := ?_) #[true, true, true, false, true, true, false, false, false, true, false, false, false, false, true, false, false, false, true, false, false, false, false] rfl rfl (take_ofW HT_.out HW_.out (by kernel_rfl)) (fun _ _ _ h => h) (Or.inl ⟨by rfl, ?_⟩) hHeld ?_ ?_
       rotate_left
       ·rintro w' ⟨s0, s1, s2, s3, s4⟩
        go_simp
        with_reducible rfl
       rotate_left
       ·simp only [Act.put, List.setIfInBounds_toArray, List.set_cons_zero, List.set_cons_succ, i64_w, i32_w]
        rfl
       refine pure_ (i := 6) (N := some 16) (v := ?_) (a' := ?_) #[true, true, true, false, true, true, true, false, false, true, false, false, false, false, true, false, false, false, true, false, false, false, false] rfl rfl (any_of HT_.out (by kernel_rfl)) (fun _ _ _ h => h) (Or.inl ⟨by rfl, ?_⟩) ?_ ?_
       rotate_left
       ·intro w'
        go_simp
        with_reducible rfl
       rotate_left
       ·simp only [Act.put, List.setIfInBounds_toArray, List.set_cons_zero, List.set_cons_succ, i64_w, i32_w]
        rfl
       refine take_ (i := 10) (N := some 20) (v := ?_) (a' := ?_) #[true, true, true, false, true, true, true, false, false, true, true, false, false, false, true, false, false, false, true, false, false, false, false] rfl rfl (take_ofW HT_.out HW_.out (by kernel_rfl)) (fun _ _ _ h => h) (Or.inl ⟨by rfl, ?_⟩) hHeld ?_ ?_
       rotate_left
       ·rintro w' ⟨s0, s1, s2, s3, s4⟩
        go_simp
        with_reducible rfl
       rotate_left
       ·simp only [Act.put, List.setIfInBounds_toArray, List.set_cons_zero, List.set_cons_succ, i64_w, i32_w]
        rfl
       refine pure_ (i := 11) (N := some 21) (v := ?_) (a' := ?_) #[true, true, true, false, true, true, true, false, false, true, true, true, false, false, true, false, false, false, true, false, false, false, false] rfl rfl (any_of HT_.out (by kernel_rfl)) (fun _ _ _ h => h) (Or.inl ⟨by rfl, ?_⟩) ?_ ?_
       rotate_left
       ·intro w'
        go_simp
        with_reducible rfl
       rotate_left
       ·simp only [Act.put, List.setIfInBounds_toArray, List.set_cons_zero, List.set_cons_succ, i64_w, i32_w]
        rfl
       refine take_ (i := 15) (N := some 25) (v := ?_) (a' := ?_) #[true, true, true, false, true, true, true, false, false, true, true, true, false, false, true, true, false, false, true, false, false, false, false] rfl rfl (take_ofW HT_.out HW_.out (by kernel_rfl)) (fun _ _ _ h => h) (Or.inl ⟨by rfl, ?_⟩) hHeld ?_ ?_
       rotate_left
       ·rintro w' ⟨s0, s1, s2, s3, s4⟩
        go_simp
        with_reducible rfl
       rotate_left
       ·simp only [Act.put, List.setIfInBounds_toArray, List.set_cons_zero, List.set_cons_succ, i64_w, i32_w]
        rfl
       refine take_ (i := 19) (N := some 29) (v := ?_) (a' := ?_) #[true, true, true, false, true, true, true, false, false, true, true, true, false, false, true, true, false, false, true, true, false, false, false] rfl rfl (take_ofW HT_.out HW_.out (by kernel_rfl)) (fun _ _ _ h => h) (Or.inl ⟨by rfl, ?_⟩) hHeld ?_ ?_
       rotate_left
       ·rintro w' ⟨s0, s1, s2, s3, s4⟩
        go_simp
        with_reducible rfl
       rotate_left
       ·simp only [Act.put, List.setIfInBounds_toArray, List.set_cons_zero, List.set_cons_succ, i64_w, i32_w]
        rfl
       refine one_ (i := 3) (N := some 13) #[true, true, true, true, true, true, true, false, false, true, true, true, false, false, true, true, false, false, true, true, false, false, false] rfl rfl (one_of HT_.out (by kernel_rfl)) (by decide) (fun K hK => ?_)
       refine goes_ Tryd.func49 (by kernel_rfl) rfl #[.int .u64 (IntKind.u64.wrap (a0_0)), .int .i64 1] (by rfl) rfl rfl (by (try simp only [List.map_toArray, List.map_cons, List.map_nil]); first | done | rfl | (simp only [List.length_drop, List.length_take]; rfl) | (rw [wrap_sum2 (by assumption)]; rfl)) ?_
       with_reducible refine (rootcellarref2_Put.calls k (IntKind.u64.wrap (a0_0)) 1 t143 _ A4.out).mono ?_
       rintro e w19 ⟨rfl, hb⟩
       refine ⟨_, rfl, ?_⟩
       have n0_ := Aside0.mk (blk_below (g := gb141) (o := .cells #[.int .i64 a0_0, .int .i64 a0_1, .int .i64 a0_2, .int .u64 a0_3, .string a0_4] 26 (0, 0)) (by (with_reducible repeat (first | refine blk_drewN ?_ _ | refine blk_drew ?_ | refine blk_alloc ?_ _)); exact BK141.out) hb)
       have n1_ := Aside0.mk (below_step (by repeat (first | (with_reducible first | exact HB.out | apply below_alloc | apply pw_below_drewN | apply below_drew1 | refine below_set ?_ GE141.out) | exact HB.out)) hb)
       clear BK141
       clear HB
       have BK141 := n0_
       have HB := n1_
       clear n0_ n1_
       (try clear hb)
       (try clear hb2)
       (try clear hk)
       (try clear hi)
       refine hK.out _ _ ⟨(blk_cell BK141.out 0).trans rfl, (blk_cell BK141.out 1).trans rfl, (blk_cell BK141.out 2).trans rfl, (blk_cell BK141.out 3).trans rfl, (blk_cell BK141.out 4).trans rfl⟩ (fun hHeld => ?_)
       clear hK K
       refine norm_ (a' := ?_) ?_ ?_
       rotate_left
       ·show Act.put _ (some 13) _ = _
        simp only [Act.put, List.setIfInBounds_toArray, List.set_cons_zero, List.set_cons_succ, i64_w, i32_w]
        rfl
       refine one_ (i := 7) (N := some 17) #[true, true, true, true, true, true, true, true, false, true, true, true, false, false, true, true, false, false, true, true, false, false, false] rfl rfl (one_of HT_.out (by kernel_rfl)) (by decide) (fun K hK => ?_)
       refine goes_ Tryd.func49 (by kernel_rfl) rfl #[.int .u64 (IntKind.u64.wrap (a0_1)), .int .i64 4] (by rfl) rfl rfl (by (try simp only [List.map_toArray, List.map_cons, List.map_nil]); first | done | rfl | (simp only [List.length_drop, List.length_take]; rfl) | (rw [wrap_sum2 (by assumption)]; rfl)) ?_
       with_reducible refine (rootcellarref2_Put.calls k (IntKind.u64.wrap (a0_1)) 4 t144 _ A5.out).mono ?_
       rintro e w20 ⟨rfl, hb⟩
       refine ⟨_, rfl, ?_⟩
       have n0_ := Aside0.mk (blk_below (g := gb141) (o := .cells #[.int .i64 a0_0, .int .i64 a0_1, .int .i64 a0_2, .int .u64 a0_3, .string a0_4] 26 (0, 0)) (by (with_reducible repeat (first | refine blk_drewN ?_ _ | refine blk_drew ?_ | refine blk_alloc ?_ _)); exact BK141.out) hb)
       have n1_ := Aside0.mk (below_step (by repeat (first | (with_reducible first | exact HB.out | apply below_alloc | apply pw_below_drewN | apply below_drew1 | refine below_set ?_ GE141.out) | exact HB.out)) hb)
       clear BK141
       clear HB
       have BK141 := n0_
       have HB := n1_
       clear n0_ n1_
       (try clear hb)
       (try clear hb2)
       (try clear hk)
       (try clear hi)
       refine hK.out _ _ ⟨(blk_cell BK141.out 0).trans rfl, (blk_cell BK141.out 1).trans rfl, (blk_cell BK141.out 2).trans rfl, (blk_cell BK141.out 3).trans rfl, (blk_cell BK141.out 4).trans rfl⟩ (fun hHeld => ?_)
       clear hK K
       refine norm_ (a' := ?_) ?_ ?_
       rotate_left
       ·show Act.put _ (some 17) _ = _
        simp only [Act.put, List.setIfInBounds_toArray, List.set_cons_zero, List.set_cons_succ, i64_w, i32_w]
        rfl
       refine pure_ (i := 8) (N := some 18) (v := ?_) (a' := ?_) #[true, true, true, true, true, true, true, true, true, true, true, true, false, false, true, true, false, false, true, true, false, false, false] rfl rfl (any_of HT_.out (by kernel_rfl)) (fun _ _ _ h => h) (Or.inl ⟨by rfl, ?_⟩) ?_ ?_
       rotate_left
       ·intro w'
        go_simp
        with_reducible rfl
       rotate_left
       ·simp only [Act.put, List.setIfInBounds_toArray, List.set_cons_zero, List.set_cons_succ, i64_w, i32_w]
        rfl
       refine one_ (i := 12) (N := some 22) #[true, true, true, true, true, true, true, true, true, true, true, true, true, false, true, true, false, false, true, true, false, false, false] rfl rfl (one_of HT_.out (by kernel_rfl)) (by decide) (fun K hK => ?_)
       refine goes_ Tryd.func49 (by kernel_rfl) rfl #[.int .u64 (IntKind.u64.wrap (a0_2)), .int .i64 4] (by rfl) rfl rfl (by (try simp only [List.map_toArray, List.map_cons, List.map_nil]); first | done | rfl | (simp only [List.length_drop, List.length_take]; rfl) | (rw [wrap_sum2 (by assumption)]; rfl)) ?_
       with_reducible refine (rootcellarref2_Put.calls k (IntKind.u64.wrap (a0_2)) 4 t145 _ A7.out).mono ?_
       rintro e w21 ⟨rfl, hb⟩
       refine ⟨_, rfl, ?_⟩
       have n0_ := Aside0.mk (blk_below (g := gb141) (o := .cells #[.int .i64 a0_0, .int .i64 a0_1, .int .i64 a0_2, .int .u64 a0_3, .string a0_4] 26 (0, 0)) (by (with_reducible repeat (first | refine blk_drewN ?_ _ | refine blk_drew ?_ | refine blk_alloc ?_ _)); exact BK141.out) hb)
       have n1_ := Aside0.mk (below_step (by repeat (first | (with_reducible first | exact HB.out | apply below_alloc | apply pw_below_drewN | apply below_drew1 | refine below_set ?_ GE141.out) | exact HB.out)) hb)
       clear BK141
       clear HB
       have BK141 := n0_
       have HB := n1_
       clear n0_ n1_
       (try clear hb)
       (try clear hb2)
       (try clear hk)
       (try clear hi)
       refine hK.out _ _ ⟨(blk_cell BK141.out 0).trans rfl, (blk_cell BK141.out 1).trans rfl, (blk_cell BK141.out 2).trans rfl, (blk_cell BK141.out 3).trans rfl, (blk_cell BK141.out 4).trans rfl⟩ (fun hHeld => ?_)
       clear hK K
       refine norm_ (a' := ?_) ?_ ?_
       rotate_left
       ·show Act.put _ (some 22) _ = _
        simp only [Act.put, List.setIfInBounds_toArray, List.set_cons_zero, List.set_cons_succ, i64_w, i32_w]
        rfl
       refine pure_ (i := 13) (N := some 23) (v := ?_) (a' := ?_) #[true, true, true, true, true, true, true, true, true, true, true, true, true, true, true, true, false, false, true, true, false, false, false] rfl rfl (any_of HT_.out (by kernel_rfl)) (fun _ _ _ h => h) (Or.inl ⟨by rfl, ?_⟩) ?_ ?_
       rotate_left
       ·intro w'
        go_simp
        with_reducible rfl
       rotate_left
       ·simp only [Act.put, List.setIfInBounds_toArray, List.set_cons_zero, List.set_cons_succ, i64_w, i32_w]
        rfl
       refine one_ (i := 16) (N := some 26) #[true, true, true, true, true, true, true, true, true, true, true, true, true, true, true, true, true, false, true, true, false, false, false] rfl rfl (one_of HT_.out (by kernel_rfl)) (by decide) (fun K hK => ?_)
       refine goes_ Tryd.func49 (by kernel_rfl) rfl #[.int .u64 a0_3, .int .i64 8] (by rfl) rfl rfl (by (try simp only [List.map_toArray, List.map_cons, List.map_nil]); first | done | rfl | (simp only [List.length_drop, List.length_take]; rfl) | (rw [wrap_sum2 (by assumption)]; rfl)) ?_
       with_reducible refine (rootcellarref2_Put.calls k a0_3 8 t146 _ A9.out).mono ?_
       rintro e w22 ⟨rfl, hb⟩
       refine ⟨_, rfl, ?_⟩
       have n0_ := Aside0.mk (blk_below (g := gb141) (o := .cells #[.int .i64 a0_0, .int .i64 a0_1, .int .i64 a0_2, .int .u64 a0_3, .string a0_4] 26 (0, 0)) (by (with_reducible repeat (first | refine blk_drewN ?_ _ | refine blk_drew ?_ | refine blk_alloc ?_ _)); exact BK141.out) hb)
       have n1_ := Aside0.mk (below_step (by repeat (first | (with_reducible first | exact HB.out | apply below_alloc | apply pw_below_drewN | apply below_drew1 | refine below_set ?_ GE141.out) | exact HB.out)) hb)
       clear BK141
       clear HB
       have BK141 := n0_
       have HB := n1_
       clear n0_ n1_
       (try clear hb)
       (try clear hb2)
       (try clear hk)
       (try clear hi)
       refine hK.out _ _ ⟨(blk_cell BK141.out 0).trans rfl, (blk_cell BK141.out 1).trans rfl, (blk_cell BK141.out 2).trans rfl, (blk_cell BK141.out 3).trans rfl, (blk_cell BK141.out 4).trans rfl⟩ (fun hHeld => ?_)
       clear hK K
       refine norm_ (a' := ?_) ?_ ?_
       rotate_left
       ·show Act.put _ (some 26) _ = _
        simp only [Act.put, List.setIfInBounds_toArray, List.set_cons_zero, List.set_cons_succ, i64_w, i32_w]
        rfl
       refine pure_ (i := 17) (N := some 27) (v := ?_) (a' := ?_) #[true, true, true, true, true, true, true, true, true, true, true, true, true, true, true, true, true, true, true, true, false, false, false] rfl rfl (any_of HT_.out (by kernel_rfl)) (fun _ _ _ h => h) (Or.inl ⟨by rfl, ?_⟩) ?_ ?_
       rotate_left
       ·intro w'
        go_simp
        with_reducible rfl
       rotate_left
       ·simp only [Act.put, List.setIfInBounds_toArray, List.set_cons_zero, List.set_cons_succ, i64_w, i32_w]
        rfl
       refine pure_ (i := 20) (N := some 30) (v := ?_) (a' := ?_) #[true, true, true, true, true, true, true, true, true, true, true, true, true, true, true, true, true, true, true, true, true, false, false] rfl rfl (any_of HT_.out (by kernel_rfl)) (fun _ _ _ h => h) (Or.inl ⟨by rfl, ?_⟩) ?_ ?_
       rotate_left
       ·intro w'
        go_simp
        with_reducible rfl
       rotate_left
       ·simp only [Act.put, List.setIfInBounds_toArray, List.set_cons_zero, List.set_cons_succ, i64_w, i32_w]
        rfl
       refine one_ (i := 21) (N := some 31) #[true, true, true, true, true, true, true, true, true, true, true, true, true, true, true, true, true, true, true, true, true, true, false] rfl rfl (one_of HT_.out (by kernel_rfl)) (by decide) (fun K hK => ?_)
       refine goes_ Tryd.func48 (by kernel_rfl) rfl #[.string ((((t143 ++ t144) ++ t145) ++ t146) ++ a0_4)] (by rfl) rfl rfl (by (try simp only [List.map_toArray, List.map_cons, List.map_nil]); first | done | rfl | (simp only [List.length_drop, List.length_take]; rfl) | (rw [wrap_sum2 (by assumption)]; rfl)) ?_
       with_reducible refine (rootcellarref3_Put.calls k ((((t143 ++ t144) ++ t145) ++ t146) ++ a0_4) t147 _ A12.out).mono ?_
       rintro e w23 ⟨rfl, hb⟩
       refine ⟨_, rfl, ?_⟩
       have n0_ := Aside0.mk (blk_below (g := gb141) (o := .cells #[.int .i64 a0_0, .int .i64 a0_1, .int .i64 a0_2, .int .u64 a0_3, .string a0_4] 26 (0, 0)) (by (with_reducible repeat (first | refine blk_drewN ?_ _ | refine blk_drew ?_ | refine blk_alloc ?_ _)); exact BK141.out) hb)
       have n1_ := Aside0.mk (below_step (by repeat (first | (with_reducible first | exact HB.out | apply below_alloc | apply pw_below_drewN | apply below_drew1 | refine below_set ?_ GE141.out) | exact HB.out)) hb)
       clear BK141
       clear HB
       have BK141 := n0_
       have HB := n1_
       clear n0_ n1_
       (try clear hb)
       (try clear hb2)
       (try clear hk)
       (try clear hi)
       refine hK.out _ _ ⟨(blk_cell BK141.out 0).trans rfl, (blk_cell BK141.out 1).trans rfl, (blk_cell BK141.out 2).trans rfl, (blk_cell BK141.out 3).trans rfl, (blk_cell BK141.out 4).trans rfl⟩ (fun hHeld => ?_)
       clear hK K
       refine norm_ (a' := ?_) ?_ ?_
       rotate_left
       ·show Act.put _ (some 31) _ = _
        simp only [Act.put, List.setIfInBounds_toArray, List.set_cons_zero, List.set_cons_succ, i64_w, i32_w]
        rfl
       refine pure_ (i := 22) (N := some 5) (v := ?_) (a' := ?_) #[true, true, true, true, true, true, true, true, true, true, true, true, true, true, true, true, true, true, true, true, true, true, true] rfl rfl (any_of HT_.out (by kernel_rfl)) (fun _ _ _ h => h) (Or.inl ⟨by rfl, ?_⟩) ?_ ?_
       rotate_left
       ·intro w'
        go_simp
        with_reducible rfl
       rotate_left
       ·simp only [Act.put, List.setIfInBounds_toArray, List.set_cons_zero, List.set_cons_succ, i64_w, i32_w]
        rfl
       refine done_ (done_of HT_.out (by kernel_rfl)) ?_
       try go_wp2_with (first | ((with_reducible refine gate_callee (f := 49) rfl ?_); refine goesL_ (some 35) rfl rfl Tryd.func49 (by kernel_rfl) rfl #[.int .u64 (IntKind.u64.wrap ((t147.size : Int))), .int .i64 2] rfl (by (try simp only [List.map_toArray, List.map_cons, List.map_nil]); first | done | rfl | (simp only [List.length_drop, List.length_take]; rfl) | (rw [wrap_sum2 (by assumption)]; rfl)) ?_; (with_reducible refine (rootcellarref2_Put.calls k (IntKind.u64.wrap ((t147.size : Int))) 2 t148 _ A13.out).mono ?_); rintro e w24 ⟨rfl, hb⟩; refine ⟨_, rfl, ?_⟩; have n0_ := Aside0.mk (blk_below (g := gb141) (o := .cells #[.int .i64 a0_0, .int .i64 a0_1, .int .i64 a0_2, .int .u64 a0_3, .string a0_4] 26 (0, 0)) (by (with_reducible repeat (first | refine blk_drewN ?_ _ | refine blk_drew ?_ | refine blk_alloc ?_ _)); exact BK141.out) hb); have n1_ := Aside0.mk (below_step (by repeat (first | (with_reducible first | exact HB.out | apply below_alloc | apply pw_below_drewN | apply below_drew1 | refine below_set ?_ GE141.out) | exact HB.out)) hb); clear BK141; clear HB; have BK141 := n0_; have HB := n1_; clear n0_ n1_; (try clear hb); (try clear hb2); (try clear hk); (try clear hi)))
       go_ret2
       exact ⟨by first | rfl | (simp [errW_none, errW_some] <;> rfl) | (simp [*, errW_none, errW_some] <;> rfl), by repeat (first | (with_reducible first | exact HB.out | apply below_alloc | apply pw_below_drewN | apply below_drew1 | refine below_set ?_ GE141.out) | exact HB.out)⟩
      ·rw [if_neg c14] at H
       exact absurd H (by simp)
     ·rw [if_neg c11] at H
      exact absurd H (by simp)
    ·rw [if_neg c10] at H
     exact absurd H (by simp)
   ·rw [if_neg c8] at H
    exact absurd H (by simp)
  ·rw [if_neg c6] at H
   exact absurd H (by simp)
 ·replace c3 := Bool.eq_false_iff.mpr c3
  subst c3
  have H1 : (some ((⟨#[]⟩ : ByteArray), 1)) = some (r1, r2) := by rw [if_neg (show ¬ (false = true) by decide)] at H; exact H
  clear H
  have H := H1
  clear H1
  simp only [Option.some.injEq, Prod.mk.injEq] at H
  obtain ⟨rfl, rfl⟩ := H
  go_enter Tryd.func20, Tryd.ntmps20
  go_wp2_with (first | ((with_reducible refine gate_dst (N := 1) rfl ?_); refine box_event ?hg (N := 1) ?hd (cs := #[.int .i64 a0_0, .int .i64 a0_1, .int .i64 a0_2, .int .u64 a0_3, .string a0_4]) (t := 26) ?hr ?_; (case hd => rfl); (case hg => rfl); (case hr => first | (go_simp; done) | (go_simp; rfl)); intro gb141 hg w25 hbox hb; have n0_ := Aside0.mk (below_step (by repeat (first | (with_reducible first | exact HB.out | apply below_alloc | apply pw_below_drewN | apply below_drew1) | exact HB.out)) hb); have n1_ := Aside0.mk (hbox); have n2_ := Aside0.mk ((by rw [hg]; exact (below_size (by repeat (first | (with_reducible first | exact HB.out | apply below_alloc | apply pw_below_drewN | apply below_drew1) | exact HB.out))) : w.heap.size ≤ gb141)); have n3_ := Aside0.mk ((by rw [hg]; exact (below_size (by repeat (first | (with_reducible first | exact HB.out | apply below_alloc | apply pw_below_drewN | apply below_drew1) | exact HB.out))) : w.heap.size ≤ gb141)); clear HB; have HB := n0_; have BK141 := n1_; have GW141 := n2_; have GE141 := n3_; clear n0_ n1_ n2_ n3_; clear hb hbox hg; have hcz26_0 : w25.cell? ⟨gb141, 0, none⟩ = some (.int .i64 a0_0) := (blk_cell BK141.out 0).trans rfl; have hcz26_1 : w25.cell? ⟨gb141, 1, none⟩ = some (.int .i64 a0_1) := (blk_cell BK141.out 1).trans rfl; have hcz26_2 : w25.cell? ⟨gb141, 2, none⟩ = some (.int .i64 a0_2) := (blk_cell BK141.out 2).trans rfl; have hcz26_3 : w25.cell? ⟨gb141, 3, none⟩ = some (.int .u64 a0_3) := (blk_cell BK141.out 3).trans rfl; have hcz26_4 : w25.cell? ⟨gb141, 4, none⟩ = some (.string a0_4) := (blk_cell BK141.out 4).trans rfl; have hfz26_0 := blk_frozen BK141.out 0; have hfz26_1 := blk_frozen BK141.out 1; have hfz26_2 := blk_frozen BK141.out 2; have hfz26_3 := blk_frozen BK141.out 3; have hfz26_4 := blk_frozen BK141.out 4) | ((with_reducible refine gate_callee (f := 22) rfl ?_); refine goesL_ (some 7) rfl rfl Tryd.func22 (by kernel_rfl) rfl #[.agg #[.int .i64 a0_0, .int .i64 a0_1, .int .i64 a0_2, .int .u64 a0_3, .string a0_4]] rfl (by (try simp only [List.map_toArray, List.map_cons, List.map_nil]); first | done | rfl | (simp only [List.length_drop, List.length_take]; rfl) | (rw [wrap_sum2 (by assumption)]; rfl)) ?_; (with_reducible refine (rootcellarref12_Right.calls k a0_0 a0_1 a0_2 a0_3 a0_4 false _ A2.out).mono ?_); rintro e w27 ⟨rfl, hb⟩; refine ⟨_, rfl, ?_⟩; have n0_ := Aside0.mk (blk_below (g := gb141) (o := .cells #[.int .i64 a0_0, .int .i64 a0_1, .int .i64 a0_2, .int .u64 a0_3, .string a0_4] 26 (0, 0)) (by (with_reducible repeat (first | refine blk_drewN ?_ _ | refine blk_drew ?_ | refine blk_alloc ?_ _)); exact BK141.out) hb); have n1_ := Aside0.mk (below_step (by repeat (first | (with_reducible first | exact HB.out | apply below_alloc | apply pw_below_drewN | apply below_drew1 | refine below_set ?_ GE141.out) | exact HB.out)) hb); clear BK141; clear HB; have BK141 := n0_; have HB := n1_; clear n0_ n1_; (try clear hb); (try clear hb2); (try clear hk); (try clear hi)))
  go_ret2
  exact ⟨by first | rfl | (simp [errW_none, errW_some] <;> rfl) | (simp [*, errW_none, errW_some] <;> rfl), by repeat (first | (with_reducible first | exact HB.out | apply below_alloc | apply pw_below_drewN | apply below_drew1 | refine below_set ?_ GE141.out) | exact HB.out)⟩

end Go.Proofs.YtboommbclbjlnaaDoor.Fn
end
section
-- Written by printx.py, a program of this session over the kit's print: each Go function as a plain Lean function, and that the Go code computes it.


namespace Go.Proofs.YtboommbclbjlnaaDoor.Fn
open Go.RowKit Go.Proofs.YtboommbclbjlnaaDoorW.PrintWords Go.Proofs.YtboommbclbjlnaaDoorW.PrintLast Go.Proofs.YtboommbclbjlnaaDoorW.PrintMore Go.Proofs.YtboommbclbjlnaaDoor.Lf
attribute [local go_sem] max2_int min2_int max_two min_two max_three min_three max_four min_four   -- for this text's walks alone
set_option linter.unusedVariables false
set_option linter.unusedSimpArgs false

/-! ### rootcellarlaw12_shown: function 17 -/
def rootcellarlaw12_shown.f (k : Nat)  : Option (Bool) := (step_Put.f k 3 5 0 0 (⟨#[]⟩ : ByteArray)).bind fun bt115 => (if bt115.2 = 0 then (if (bt115.1.size : Int) = 23 then (if 0 ≤ 19 then (if 19 ≤ (bt115.1.size : Int) then (some ((bt115.1.extract 0 19).toList == ([21, 0, 3, 5, 0, 0, 0, 0, 0, 0, 0, 0, 0, 0, 0, 0, 0, 0, 0] : List UInt8))) else (none)) else (none)) else (some false)) else (some false))
theorem rootcellarlaw12_shown.mono : ∀ k, LeO (rootcellarlaw12_shown.f k ) (rootcellarlaw12_shown.f (k + 1) ) := by
 intro  k
 unfold rootcellarlaw12_shown.f
 repeat' first
   | (with_reducible exact step_Put.mono _ _ _ _ _ _)
   | (with_reducible exact LeO.refl _)
   | (with_reducible exact LeO.none _)
   | (with_reducible refine LeO.ite ?_ ?_)
   | (with_reducible refine LeO.bind ?_ (fun _ => ?_))
   | exact step_Put.mono _ _ _ _ _ _
   | exact LeO.none _
   | refine LeO.ite ?_ ?_
   | refine LeO.bind ?_ (fun _ => ?_)
set_option maxHeartbeats 8000000 in
set_option maxRecDepth 100000 in
theorem rootcellarlaw12_shown.calls (k : Nat)  (r : Bool) (w : World) (h : rootcellarlaw12_shown.f k  = some r) (HT : Tabs w) :
  Calls Tryd.prog 17 #[] w fun e w' => e = .returned (.bool r) ∧ Below w.heap.size w w' := by
 have hu24 := Tryd.underlying24
 have HB := Aside0.mk (Below.refl w.heap.size w)
 have H : ((step_Put.f k 3 5 0 0 (⟨#[]⟩ : ByteArray)).bind fun bt115 => (if bt115.2 = 0 then (if (bt115.1.size : Int) = 23 then (if 0 ≤ 19 then (if 19 ≤ (bt115.1.size : Int) then (some ((bt115.1.extract 0 19).toList == ([21, 0, 3, 5, 0, 0, 0, 0, 0, 0, 0, 0, 0, 0, 0, 0, 0, 0, 0] : List UInt8))) else (none)) else (none)) else (some false)) else (some false))) = some r := h
 clear h
 replace H := Option.bind_eq_some_iff.mp H
 obtain ⟨⟨t115, t116⟩, A10, H⟩ := H
 replace H : (if t116 = 0 then (if (t115.size : Int) = 23 then (if 0 ≤ 19 then (if 19 ≤ (t115.size : Int) then (some ((t115.extract 0 19).toList == ([21, 0, 3, 5, 0, 0, 0, 0, 0, 0, 0, 0, 0, 0, 0, 0, 0, 0, 0] : List UInt8))) else (none)) else (none)) else (some false)) else (some false)) = some r := H
 have A1 := Aside0.mk A10
 clear A10
 by_cases c2 : t116 = 0
 ·rw [if_pos c2] at H
  have c2b0 : (t116 == 0) = true := beq_iff_eq.mpr c2
  have c2b1 : (t116 != 0) = false := bne_eq_false_iff_eq.mpr c2
  clear c2
  by_cases c3 : (t115.size : Int) = 23
  ·rw [if_pos c3] at H
   have c3b0 : ((t115.size : Int) == 23) = true := beq_iff_eq.mpr c3
   have c3b1 : ((t115.size : Int) != 23) = false := bne_eq_false_iff_eq.mpr c3
   clear c3
   by_cases c4 : 0 ≤ 19
   ·rw [if_pos c4] at H
    have c4b0 := eq_true c4
    have c4b1 : decide (0 ≤ 19) = true := decide_eq_true c4
    clear c4
    by_cases c5 : 19 ≤ (t115.size : Int)
    ·rw [if_pos c5] at H
     have c5b0 := eq_true c5
     have c5b1 : decide (19 ≤ (t115.size : Int)) = true := decide_eq_true c5
     clear c5
     obtain rfl := Option.some.inj H
     go_enter Tryd.func17, Tryd.ntmps17
     go_wp2_with (first | ((with_reducible refine gate_callee (f := 19) rfl ?_); refine goesL_ (some 5) rfl rfl Tryd.func19 (by kernel_rfl) rfl #[.agg #[.int .i64 3, .int .i64 5, .int .i64 0, .int .u64 0, .string (⟨#[]⟩ : ByteArray)]] rfl (by (try simp only [List.map_toArray, List.map_cons, List.map_nil]); first | done | rfl | (simp only [List.length_drop, List.length_take]; rfl) | (rw [wrap_sum2 (by assumption)]; rfl)) ?_; (with_reducible refine (step_Put.calls k 3 5 0 0 (⟨#[]⟩ : ByteArray) t115 t116 _ A1.out (HT.below (by repeat (first | (with_reducible first | exact HB.out | apply below_alloc | apply pw_below_drewN | apply below_drew1) | exact HB.out)))).mono ?_); rintro e w6 ⟨rfl, hb⟩; refine ⟨_, rfl, ?_⟩; have n0_ := Aside0.mk (below_step (by repeat (first | (with_reducible first | exact HB.out | apply below_alloc | apply pw_below_drewN | apply below_drew1) | exact HB.out)) hb); clear HB; have HB := n0_; clear n0_; (try clear hb); (try clear hb2); (try clear hk); (try clear hi)))
     go_ret
     exact ⟨by first | rfl | (simp [errW_none, errW_some] <;> rfl) | (simp [*, errW_none, errW_some] <;> rfl), by repeat (first | (with_reducible first | exact HB.out | apply below_alloc | apply pw_below_drewN | apply below_drew1) | exact HB.out)⟩
    ·rw [if_neg c5] at H
     exact absurd H (by simp)
   ·rw [if_neg c4] at H
    exact absurd H (by simp)
  ·rw [if_neg c3] at H
   have c3b0 : ((t115.size : Int) == 23) = false := beq_eq_false_iff_ne.mpr c3
   have c3b1 : ((t115.size : Int) != 23) = true := bne_iff_ne.mpr c3
   obtain rfl := Option.some.inj H
   go_enter Tryd.func17, Tryd.ntmps17
   go_wp2_with (first | ((with_reducible refine gate_callee (f := 19) rfl ?_); refine goesL_ (some 5) rfl rfl Tryd.func19 (by kernel_rfl) rfl #[.agg #[.int .i64 3, .int .i64 5, .int .i64 0, .int .u64 0, .string (⟨#[]⟩ : ByteArray)]] rfl (by (try simp only [List.map_toArray, List.map_cons, List.map_nil]); first | done | rfl | (simp only [List.length_drop, List.length_take]; rfl) | (rw [wrap_sum2 (by assumption)]; rfl)) ?_; (with_reducible refine (step_Put.calls k 3 5 0 0 (⟨#[]⟩ : ByteArray) t115 t116 _ A1.out (HT.below (by repeat (first | (with_reducible first | exact HB.out | apply below_alloc | apply pw_below_drewN | apply below_drew1) | exact HB.out)))).mono ?_); rintro e w7 ⟨rfl, hb⟩; refine ⟨_, rfl, ?_⟩; have n0_ := Aside0.mk (below_step (by repeat (first | (with_reducible first | exact HB.out | apply below_alloc | apply pw_below_drewN | apply below_drew1) | exact HB.out)) hb); clear HB; have HB := n0_; clear n0_; (try clear hb); (try clear hb2); (try clear hk); (try clear hi)))
   go_ret
   exact ⟨by first | rfl | (simp [errW_none, errW_some] <;> rfl) | (simp [*, errW_none, errW_some] <;> rfl), by repeat (first | (with_reducible first | exact HB.out | apply below_alloc | apply pw_below_drewN | apply below_drew1) | exact HB.out)⟩
 ·rw [if_neg c2] at H
  have c2b0 : (t116 == 0) = false := beq_eq_false_iff_ne.mpr c2
  have c2b1 : (t116 != 0) = true := bne_iff_ne.mpr c2
  obtain rfl := Option.some.inj H
  go_enter Tryd.func17, Tryd.ntmps17
  go_wp2_with (first | ((with_reducible refine gate_callee (f := 19) rfl ?_); refine goesL_ (some 5) rfl rfl Tryd.func19 (by kernel_rfl) rfl #[.agg #[.int .i64 3, .int .i64 5, .int .i64 0, .int .u64 0, .string (⟨#[]⟩ : ByteArray)]] rfl (by (try simp only [List.map_toArray, List.map_cons, List.map_nil]); first | done | rfl | (simp only [List.length_drop, List.length_take]; rfl) | (rw [wrap_sum2 (by assumption)]; rfl)) ?_; (with_reducible refine (step_Put.calls k 3 5 0 0 (⟨#[]⟩ : ByteArray) t115 t116 _ A1.out (HT.below (by repeat (first | (with_reducible first | exact HB.out | apply below_alloc | apply pw_below_drewN | apply below_drew1) | exact HB.out)))).mono ?_); rintro e w8 ⟨rfl, hb⟩; refine ⟨_, rfl, ?_⟩; have n0_ := Aside0.mk (below_step (by repeat (first | (with_reducible first | exact HB.out | apply below_alloc | apply pw_below_drewN | apply below_drew1) | exact HB.out)) hb); clear HB; have HB := n0_; clear n0_; (try clear hb); (try clear hb2); (try clear hk); (try clear hi)))
  go_ret
  exact ⟨by first | rfl | (simp [errW_none, errW_some] <;> rfl) | (simp [*, errW_none, errW_some] <;> rfl), by repeat (first | (with_reducible first | exact HB.out | apply below_alloc | apply pw_below_drewN | apply below_drew1) | exact HB.out)⟩

end Go.Proofs.YtboommbclbjlnaaDoor.Fn
end
section
-- Written by printx.py, a program of this session over the kit's print: each Go function as a plain Lean function, and that the Go code computes it.

namespace Go.Proofs.YtboommbclbjlnaaDoor.Fn
open Go.RowKit Go.Proofs.YtboommbclbjlnaaDoorW.PrintWords Go.Proofs.YtboommbclbjlnaaDoorW.PrintLast Go.Proofs.YtboommbclbjlnaaDoorW.PrintMore Go.Proofs.YtboommbclbjlnaaDoor.Lf
attribute [local go_sem] max2_int min2_int max_two min_two max_three min_three max_four min_four   -- for this text's walks alone
set_option linter.unusedVariables false
set_option linter.unusedSimpArgs false

/-! ### rootcellarlaw12_steps: function 18 -/
def rootcellarlaw12_steps.l0 : Nat → List (S24) → List (S26) → Int → Option ((List (S26)))
 | 0, _, _, _ => none
 | k + 1, x0, x3, x4 => if x4 < (x0.length : Int) then (if 0 ≤ x4 then (if x3.length < 2932031007402 then (rootcellarlaw12_steps.l0 k x0 (x3 ++ [(⟨(rd_T24 x0 x4).f0, (rd_T24 x0 x4).f1, (rd_T24 x0 x4).f2, (rd_T24 x0 x4).f3, (rd_T24 x0 x4).f4⟩ : S26)]) (wrap64 (x4 + 1))) else (none)) else (none)) else (some x3)
def rootcellarlaw12_steps.f (k : Nat) (l0 : List (S24)) : Option ((List (S26))) := rootcellarlaw12_steps.l0 k l0 ([] : List (S26)) 0
theorem rootcellarlaw12_steps.mono_l : ∀ k, (∀ y0 y1 y2, LeO (rootcellarlaw12_steps.l0 k y0 y1 y2) (rootcellarlaw12_steps.l0 (k + 1) y0 y1 y2))
 | 0 => fun _ _ _ r h => by simp [rootcellarlaw12_steps.l0] at h
 | k + 1 => by
  have ih0 := rootcellarlaw12_steps.mono_l k
  ·intro y0 y1 y2
   unfold rootcellarlaw12_steps.l0
   repeat' first
   | (with_reducible exact ih0 _ _ _)
   | (with_reducible exact LeO.refl _)
   | (with_reducible exact LeO.none _)
   | (with_reducible refine LeO.ite ?_ ?_)
   | (with_reducible refine LeO.bind ?_ (fun _ => ?_))
   | exact ih0 _ _ _
   | exact LeO.none _
   | refine LeO.ite ?_ ?_
   | refine LeO.bind ?_ (fun _ => ?_)
theorem rootcellarlaw12_steps.mono : ∀ a0 k, LeO (rootcellarlaw12_steps.f k a0) (rootcellarlaw12_steps.f (k + 1) a0) := by
 intro a0 k
 have ih0 := rootcellarlaw12_steps.mono_l k
 unfold rootcellarlaw12_steps.f
 repeat' first
   | (with_reducible exact ih0 _ _ _)
   | (with_reducible exact LeO.refl _)
   | (with_reducible exact LeO.none _)
   | (with_reducible refine LeO.ite ?_ ?_)
   | (with_reducible refine LeO.bind ?_ (fun _ => ?_))
   | exact ih0 _ _ _
   | exact LeO.none _
   | refine LeO.ite ?_ ?_
   | refine LeO.bind ?_ (fun _ => ?_)
set_option maxHeartbeats 8000000 in
set_option maxRecDepth 100000 in
theorem rootcellarlaw12_steps.calls (k : Nat) (A0 : Option Addr) (c0 : Nat) (l0 : List (S24)) (r : List (S26)) (w : World) (hr0 : Kd.C k24 w A0 l0.length l0) (hc0 : l0.length ≤ c0) (h : rootcellarlaw12_steps.f k l0 = some r) :
  Calls Tryd.prog 18 #[.slice A0 l0.length c0] w fun e w' => ∃ v0_ : Value, e = .returned (v0_) ∧ Kd.R k26 26 w' w.heap.size (fun _ => True) v0_ r ∧ Below w.heap.size w w' := by
 have hu24 := Tryd.underlying24
 have hu26 := Tryd.underlying26
 have HR0 := Aside0.mk hr0
 have HC0 := Aside0.mk hc0
 clear hr0 hc0
 have HB := Aside0.mk (Below.refl w.heap.size w)
 have H : (rootcellarlaw12_steps.l0 k l0 ([] : List (S26)) 0) = some r := h
 clear h
 have H' := Aside0.mk H
 clear H
 go_enter Tryd.func18, Tryd.ntmps18
 go_wp2
 go_loopg [3, 4] k (fun kq v3 v4 w' => ∃ (x3_1 : List (S26)) (x4_1 : Int), v4 = .int .i64 x4_1 ∧ Aside0 (rootcellarlaw12_steps.l0 kq l0 x3_1 x4_1 = some r) ∧ Aside0 (kq ≤ k) ∧ Aside0 (Kd.R k26 26 w' w.heap.size (fun _ => True) v3 x3_1) ∧ Aside0 (Below w.heap.size w w'))
 case atStart => exact ⟨(([] : List (S26))), (0), (by first | rfl | (simp; done) | (simp [*]; done)), H', ⟨Nat.le_refl _⟩, ⟨by first | exact Kd.R_nil _ _ _ _ _ | exact Kd.N_nil _ _ _ _ _ | exact Kd.V_nil _ _ _ _ _ | exact Kd.Q_nil _ _ _ _ _ | exact Kd.S_nil _ _ _ _ _⟩, ⟨by repeat (first | (with_reducible first | exact HB.out | apply below_alloc | apply pw_below_drewN | apply below_drew1) | exact HB.out)⟩⟩
 case round =>
  clear H'
  try clear c1
  obtain ⟨x3_1, x4_1, rfl, HA, HK1, HO_3, HB⟩ := hrel
  cases gk with
  | zero => exact absurd HA.out (by simp [rootcellarlaw12_steps.l0])
  | succ k1 =>
   have H := HA.out
   clear HA
   simp only [rootcellarlaw12_steps.l0] at H
   by_cases c2 : x4_1 < (l0.length : Int)
   ·rw [if_pos c2] at H
    have c2b0 : decide (x4_1 < (l0.length : Int)) = true := decide_eq_true c2
    clear c2
    by_cases c3 : 0 ≤ x4_1
    ·rw [if_pos c3] at H
     have c3b0 : decide (0 ≤ x4_1) = true := decide_eq_true c3
     clear c3
     by_cases c4 : x3_1.length < 2932031007402
     ·rw [if_pos c4] at H
      have LMc4 := Aside0.mk c4
      clear c4
      obtain ⟨y119, hy119⟩ : ∃ y_ : List (S26), y_ = (x3_1 ++ [(⟨(rd_T24 l0 x4_1).f0, (rd_T24 l0 x4_1).f1, (rd_T24 l0 x4_1).f2, (rd_T24 l0 x4_1).f3, (rd_T24 l0 x4_1).f4⟩ : S26)]) := ⟨_, rfl⟩
      replace H : (rootcellarlaw12_steps.l0 k1 l0 y119 (wrap64 (x4_1 + 1))) = some r := by first | (rw [hy119]; with_reducible exact H) | (have H2_ := (Option.bind_some _ _).symm.trans H; rw [hy119]; with_reducible exact H2_) | (have H2_ := (Option.bind_some _ _).symm.trans H; with_reducible exact H2_) | with_reducible exact H | (rw [hy119]; exact H) | exact H
      have Ny119 := Aside0.mk hy119
      clear hy119
      have H' := Aside0.mk H
      clear H
      have p117 : 0 ≤ (x4_1 : Int) := of_decide_eq_true (by first | (with_reducible assumption) | assumption)
      have q117 : x4_1 < (l0.length : Int) := of_decide_eq_true (by first | (with_reducible assumption) | assumption)
      obtain ⟨ad117, e117, hx117_0, hx117_1, hx117_2, hx117_3, hx117_4⟩ := at_T24 HR0.out x4_1 p117 q117
      cases e117
      replace hx117_0 := (HB.out.cell (World.block_lt_of_cell? w _ hx117_0)).trans hx117_0
      replace hx117_1 := (HB.out.cell (World.block_lt_of_cell? w _ hx117_1)).trans hx117_1
      replace hx117_2 := (HB.out.cell (World.block_lt_of_cell? w _ hx117_2)).trans hx117_2
      replace hx117_3 := (HB.out.cell (World.block_lt_of_cell? w _ hx117_3)).trans hx117_3
      replace hx117_4 := (HB.out.cell (World.block_lt_of_cell? w _ hx117_4)).trans hx117_4
      replace p117 := eq_true p117
      replace q117 := eq_true q117
      go_wp2_with (first | ((with_reducible refine gate_dst (N := 5) rfl ?_); refine box_event ?hg (N := 5) ?hd (cs := #[.int .i64 0, .int .i64 0, .int .i64 0, .int .u64 0, .string (⟨#[]⟩ : ByteArray)]) (t := 24) ?hr ?_; (case hd => rfl); (case hg => rfl); (case hr => first | (go_simp; done) | (go_simp; rfl)); intro gb118 hg w5 hbox hb; have n0_ := Aside0.mk (Kd.R_below (by (with_reducible repeat (first | apply Kd.R_alloc | apply Kd.R_drewN | apply Kd.R_drew)); exact HO_3.out) hb); have n1_ := Aside0.mk (below_step (by repeat (first | (with_reducible first | exact HB.out | apply below_alloc | apply pw_below_drewN | apply below_drew1) | exact HB.out)) hb); have n2_ := Aside0.mk (hbox); have n3_ := Aside0.mk ((by rw [hg]; exact (below_size (by repeat (first | (with_reducible first | exact HB.out | apply below_alloc | apply pw_below_drewN | apply below_drew1) | exact HB.out))) : w.heap.size ≤ gb118)); have n4_ := Aside0.mk ((by rw [hg]; exact (below_size (by repeat (first | (with_reducible first | exact HB.out | apply below_alloc | apply pw_below_drewN | apply below_drew1) | exact HB.out))) : w.heap.size ≤ gb118)); clear HO_3; clear HB; have HO_3 := n0_; have HB := n1_; have BK118 := n2_; have GW118 := n3_; have GE118 := n4_; clear n0_ n1_ n2_ n3_ n4_; clear hb hbox hg; have hcz6_0 : w5.cell? ⟨gb118, 0, none⟩ = some (.int .i64 0) := (blk_cell BK118.out 0).trans rfl; have hcz6_1 : w5.cell? ⟨gb118, 1, none⟩ = some (.int .i64 0) := (blk_cell BK118.out 1).trans rfl; have hcz6_2 : w5.cell? ⟨gb118, 2, none⟩ = some (.int .i64 0) := (blk_cell BK118.out 2).trans rfl; have hcz6_3 : w5.cell? ⟨gb118, 3, none⟩ = some (.int .u64 0) := (blk_cell BK118.out 3).trans rfl; have hcz6_4 : w5.cell? ⟨gb118, 4, none⟩ = some (.string (⟨#[]⟩ : ByteArray)) := (blk_cell BK118.out 4).trans rfl; have hfz6_0 := blk_frozen BK118.out 0; have hfz6_1 := blk_frozen BK118.out 1; have hfz6_2 := blk_frozen BK118.out 2; have hfz6_3 := blk_frozen BK118.out 3; have hfz6_4 := blk_frozen BK118.out 4) | ((with_reducible refine gate_builtin (b := .append) (xs := #[.tmp 16, .tmp 28]) rfl ?_); at_builtin; refine Kd.R_append k26 (w0 := w) w.heap.size rfl (.tmp 16) (.tmp 28) 27 26 (.agg #[(.int .i64 0), (.int .i64 0), (.int .i64 0), (.int .u64 0), (.string ⟨#[]⟩)]) 48 rfl Tryd.underlying27 info26 rfl (by decide) (by omega) u3 x3_1 (⟨(rd_T24 l0 x4_1).f0, (rd_T24 l0 x4_1).f1, (rd_T24 l0 x4_1).f2, (rd_T24 l0 x4_1).f3, (rd_T24 l0 x4_1).f4⟩ : S26) [.int .i64 ((rd_T24 l0 x4_1).f0), .int .i64 ((rd_T24 l0 x4_1).f1), .int .i64 ((rd_T24 l0 x4_1).f2), .int .u64 ((rd_T24 l0 x4_1).f3), .string ((rd_T24 l0 x4_1).f4)] (fun _ => True) (fun _ => False) rfl (by first | (go_simp; done) | (go_simp; rfl)) ?aP (fun _ hk => hk.elim) ?aF ?aO ?aB ?aS ?aL ?_; (case aP => exact k26_mkM _ _ _ (⟨(rd_T24 l0 x4_1).f0, (rd_T24 l0 x4_1).f1, (rd_T24 l0 x4_1).f2, (rd_T24 l0 x4_1).f3, (rd_T24 l0 x4_1).f4⟩ : S26)); (case aB => exact (by repeat (first | (with_reducible first | exact HB.out | apply below_alloc | apply pw_below_drewN | apply below_drew1 | refine below_set ?_ GE118.out) | exact HB.out))); (case aF => exact (fun _ _ => trivial)); (case aO => exact (by (with_reducible repeat (first | apply Kd.R_alloc | apply Kd.R_drewN | apply Kd.R_drew)); exact Kd.R_mono (Kd.R_far (p := ⟨gb118, 4, none⟩) (Kd.R_far (p := ⟨gb118, 3, none⟩) (Kd.R_far (p := ⟨gb118, 2, none⟩) (Kd.R_far (p := ⟨gb118, 1, none⟩) (Kd.R_far (p := ⟨gb118, 0, none⟩) (Kd.R_types HO_3.out BK118.out (by decide)) (fun _ hk => hk.2) (.int .i64 ((rd_T24 l0 x4_1).f0))) (fun _ hk => hk.2) (.int .i64 ((rd_T24 l0 x4_1).f1))) (fun _ hk => hk.2) (.int .i64 ((rd_T24 l0 x4_1).f2))) (fun _ hk => hk.2) (.int .u64 ((rd_T24 l0 x4_1).f3))) (fun _ hk => hk.2) (.string ((rd_T24 l0 x4_1).f4))) (fun _ hk => trivial))); (case aS => exact (below_size (by repeat (first | (with_reducible first | exact HB.out | apply below_alloc | apply pw_below_drewN | apply below_drew1 | refine below_set ?_ GE118.out) | exact HB.out)))); (case aL => have := LMc4.out; omega); intro v120 w7 ho hb hg hat; rw [← Ny119.out] at ho; have n0_ := Aside0.mk (blk_grown (g := gb118) (o := .cells #[.int .i64 ((rd_T24 l0 x4_1).f0), .int .i64 ((rd_T24 l0 x4_1).f1), .int .i64 ((rd_T24 l0 x4_1).f2), .int .u64 ((rd_T24 l0 x4_1).f3), .string ((rd_T24 l0 x4_1).f4)] 24 (0, 0)) (by (with_reducible repeat (first | refine blk_drewN ?_ _ | refine blk_drew ?_ | refine blk_alloc ?_ _)); refine blk_put (cs := #[.int .i64 ((rd_T24 l0 x4_1).f0), .int .i64 ((rd_T24 l0 x4_1).f1), .int .i64 ((rd_T24 l0 x4_1).f2), .int .u64 ((rd_T24 l0 x4_1).f3), .string (⟨#[]⟩ : ByteArray)]) ?_ 4 _ rfl; (with_reducible repeat (first | refine blk_drewN ?_ _ | refine blk_drew ?_ | refine blk_alloc ?_ _)); refine blk_put (cs := #[.int .i64 ((rd_T24 l0 x4_1).f0), .int .i64 ((rd_T24 l0 x4_1).f1), .int .i64 ((rd_T24 l0 x4_1).f2), .int .u64 0, .string (⟨#[]⟩ : ByteArray)]) ?_ 3 _ rfl; (with_reducible repeat (first | refine blk_drewN ?_ _ | refine blk_drew ?_ | refine blk_alloc ?_ _)); refine blk_put (cs := #[.int .i64 ((rd_T24 l0 x4_1).f0), .int .i64 ((rd_T24 l0 x4_1).f1), .int .i64 0, .int .u64 0, .string (⟨#[]⟩ : ByteArray)]) ?_ 2 _ rfl; (with_reducible repeat (first | refine blk_drewN ?_ _ | refine blk_drew ?_ | refine blk_alloc ?_ _)); refine blk_put (cs := #[.int .i64 ((rd_T24 l0 x4_1).f0), .int .i64 0, .int .i64 0, .int .u64 0, .string (⟨#[]⟩ : ByteArray)]) ?_ 1 _ rfl; (with_reducible repeat (first | refine blk_drewN ?_ _ | refine blk_drew ?_ | refine blk_alloc ?_ _)); refine blk_put (cs := #[.int .i64 0, .int .i64 0, .int .i64 0, .int .u64 0, .string (⟨#[]⟩ : ByteArray)]) ?_ 0 _ rfl; (with_reducible repeat (first | refine blk_drewN ?_ _ | refine blk_drew ?_ | refine blk_alloc ?_ _)); exact BK118.out) hg (Kd.R_ne HO_3.out BK118.out (by decide))); have n1_ := Aside0.mk (hb); have n2_ := Aside0.mk (ho); clear BK118; clear HB; clear HO_3; have BK118 := n0_; have HB := n1_; have HO121 := n2_; clear n0_ n1_ n2_; clear ho hb hg hat))
      go_roundg k1
      case measure => have := HK1.out; omega
      case rel => exact ⟨(y119), (wrap64 (x4_1 + 1)), (by first | rfl | (simp; done) | (simp [*]; done)), H', ⟨by have := HK1.out; omega⟩, ⟨by (with_reducible repeat (first | apply Kd.R_alloc | apply Kd.R_drewN | apply Kd.R_drew)); exact HO121.out⟩, ⟨by repeat (first | (with_reducible first | exact HB.out | apply below_alloc | apply pw_below_drewN | apply below_drew1 | refine below_set ?_ GE118.out) | exact HB.out)⟩⟩
     ·rw [if_neg c4] at H
      exact absurd H (by simp)
    ·rw [if_neg c3] at H
     exact absurd H (by simp)
   ·rw [if_neg c2] at H
    have c2b0 : decide (x4_1 < (l0.length : Int)) = false := decide_eq_false c2
    clear c2
    obtain rfl := Option.some.inj H
    go_wp2
    go_ret
    exact ⟨_, by first | rfl | (simp [errW_none, errW_some] <;> rfl) | (simp [*, errW_none, errW_some] <;> rfl), by (with_reducible repeat (first | apply Kd.R_alloc | apply Kd.R_drewN | apply Kd.R_drew)); exact HO_3.out, by repeat (first | (with_reducible first | exact HB.out | apply below_alloc | apply pw_below_drewN | apply below_drew1) | exact HB.out)⟩

end Go.Proofs.YtboommbclbjlnaaDoor.Fn
end
section
-- Written by printx.py, a program of this session over the kit's print: each Go function as a plain Lean function, and that the Go code computes it.




namespace Go.Proofs.YtboommbclbjlnaaDoor.Fn
open Go.RowKit Go.Proofs.YtboommbclbjlnaaDoorW.PrintWords Go.Proofs.YtboommbclbjlnaaDoorW.PrintLast Go.Proofs.YtboommbclbjlnaaDoorW.PrintMore Go.Proofs.YtboommbclbjlnaaDoor.Lf
attribute [local go_sem] max2_int min2_int max_two min_two max_three min_three max_four min_four   -- for this text's walks alone
set_option linter.unusedVariables false
set_option linter.unusedSimpArgs false

/-! ### step_Step: function 53 -/
/-- slices.Clone of steps: the same steps. -/
def step_Step.f (l : List S24) : Option (List S24) := if l.length ≤ 1000000000 then some l else none
def cellsOf24 (x : S24) : List Value := [.int .i64 x.f0, .int .i64 x.f1, .int .i64 x.f2, .int .u64 x.f3, .string x.f4]
theorem row24_len (l : List S24) : (l.flatMap cellsOf24).length = l.length * 5 := by
 induction l with
 | nil => rfl
 | cons x l ih => rw [List.flatMap_cons, List.length_append, ih, List.length_cons]; show 5 + _ = _; omega
theorem row24_at (l : List S24) : ∀ m, (l.flatMap cellsOf24)[m]? = (l[m / 5]?).bind fun x => (cellsOf24 x)[m % 5]? := by
 induction l with
 | nil => intro m; simp
 | cons x l ih =>
  intro m
  rw [List.flatMap_cons]
  rcases Nat.lt_or_ge m 5 with h | h
  ·rw [List.getElem?_append_left (by exact h), Nat.div_eq_of_lt h, Nat.mod_eq_of_lt h]; rfl
  ·rw [List.getElem?_append_right (by exact h)]
   show (l.flatMap cellsOf24)[m - 5]? = _
   rw [ih, show m / 5 = (m - 5) / 5 + 1 by omega, List.getElem?_cons_succ, show m % 5 = (m - 5) % 5 by omega]
theorem row24_take (l : List S24) (j : Nat) (p : S24) (h : l[j]? = some p) : ((l.flatMap cellsOf24).drop (j * 5)).take 5 = cellsOf24 p := by
 apply List.ext_getElem?
 intro i
 rcases Nat.lt_or_ge i 5 with hi | hi
 ·rw [List.getElem?_take_of_lt hi, List.getElem?_drop, row24_at, show (j * 5 + i) / 5 = j by omega, show (j * 5 + i) % 5 = i by omega, h]; rfl
 ·rw [List.getElem?_eq_none (by rw [List.length_take]; omega), List.getElem?_eq_none (by exact hi)]
theorem row24_one (l : List S24) : ∀ u ∈ l.flatMap cellsOf24, u.oneCell' = true := by
 intro u hu
 obtain ⟨x, _, hx⟩ := List.mem_flatMap.1 hu
 simp only [cellsOf24, List.mem_cons, List.not_mem_nil, or_false] at hx
 rcases hx with rfl | rfl | rfl | rfl | rfl <;> rfl
set_option maxHeartbeats 4000000 in
set_option maxRecDepth 100000 in
theorem step_Step.calls (A0 : Option Addr) (c0 : Nat) (l0 r1 : List S24) (w : World) (hr0 : Kd.C k24 w A0 l0.length l0) (hc0 : l0.length ≤ c0) (h : step_Step.f l0 = some r1) :
  Calls Tryd.prog 53 #[.slice A0 l0.length c0] w fun e w' => ∃ v0_ : Value, e = .returned v0_ ∧ Kd.R k24 24 w' w.heap.size (fun _ => True) v0_ r1 ∧ Below w.heap.size w w' := by
 unfold step_Step.f at h
 split at h
 case isFalse => cases h
 rename_i hn
 cases h
 have q22 : ∀ (w : World) (a : Option Addr) (n c n' c' : Nat), (binOp .eql 29 (.slice a n c) (.slice none n' c')).run Tryd.prog w = .ok (.bool a.isNone) w := fun w a n c n' c' => Lib.run_eql_slice_nil w _ _ a n c n' c' Tryd.underlying29
 cases A0 with
 | none =>
  have hl : l0 = [] := by
   rcases Nat.eq_zero_or_pos l0.length with h0 | h0
   ·exact List.eq_nil_of_length_eq_zero h0
   ·obtain ⟨ad, e, _⟩ := hr0.2.2 h0
    cases e
  subst hl
  clear hr0
  go_enter Tryd.func53, Tryd.ntmps53
  go_wp2
  go_ret
  exact ⟨_, rfl, Kd.R_nil _ _ _ _ _, Below.refl _ _⟩
 | some ad =>
  have hcell : Aside0 (∀ j u, (l0.flatMap cellsOf24)[j]? = some u → w.cell? (ad.add j) = some u) := ⟨by
   intro m u hm
   rw [row24_at] at hm
   obtain ⟨p, hp, hu⟩ := Option.bind_eq_some_iff.1 hm
   have hpos : 0 < l0.length := by
    rcases Nat.eq_zero_or_pos l0.length with h0 | h0
    ·rw [List.eq_nil_of_length_eq_zero h0] at hp; simp at hp
    ·exact h0
   obtain ⟨ad', e, hc⟩ := hr0.2.2 hpos
   cases e
   obtain ⟨c, _, hK, hcell⟩ := hc _ p hp
   obtain rfl := k24_open hK
   have h2 := hcell (m % 5) u hu
   rw [show k24.sz = 5 from rfl, show m / 5 * 5 + m % 5 = m by omega] at h2
   exact h2⟩
  clear hr0
  obtain ⟨i0, hi, hz⟩ := Option.map_eq_some_iff.1 info24
  simp only [Prod.mk.injEq] at hz
  obtain ⟨hz0, hz1, hz2⟩ := hz
  go_enter Tryd.func53, Tryd.ntmps53
  go_wp2_with (at_builtin; refine wpList_append_own _ rfl _ _ 29 rfl w.heap.size 24 i0 _ 5 48 Tryd.underlying29 hi hz0 hz1 hz2 rfl (by omega) _ _ _ rfl (World.ownsRow_made w #[] 0 (Nat.le_refl _) (Nat.zero_le _) (by simp)) ad l0.length c0 (l0.flatMap cellsOf24) rfl ?qc1 ?qc2 ?qc3 ?qc4 ?qc5 ?qc6 ?_)
  case qc1 => exact row24_len l0
  case qc2 =>
   intro j u hj
   exact Lib.cell?_alloc_some _ (hcell.out j u hj)
  case qc3 => exact row24_one l0
  case qc4 => rw [Nat.zero_add]; unfold maxLen; omega
  case qc5 => rw [Nat.zero_add]; omega
  case qc6 => simp
  intro v' w1 hown hgrow hnil
  go_wp2
  go_ret
  refine ⟨v', rfl, ⟨fun _ _ => trivial, l0.flatMap cellsOf24, (show w1.ownsRow w.heap.size 24 5 v' l0.length (l0.flatMap cellsOf24) from by simpa using hown), ⟨row24_len l0, fun j p hj => ?_⟩⟩, ?_⟩
  ·rw [show k24.sz = 5 from rfl, row24_take l0 j p hj]
   exact k24_mkM _ _ _ p
  ·exact ((Below.refl _ w).alloc (Nat.le_refl _) _).grown hgrow (by simp) (by intro k hk; simp [Value.ownBlock] at hk; omega)

end Go.Proofs.YtboommbclbjlnaaDoor.Fn
end
section
-- Written by printx.py, a program of this session over the kit's print: each Go function as a plain Lean function, and that the Go code computes it.


namespace Go.Proofs.YtboommbclbjlnaaDoor.Fn
open Go.RowKit Go.Proofs.YtboommbclbjlnaaDoorW.PrintWords Go.Proofs.YtboommbclbjlnaaDoorW.PrintLast Go.Proofs.YtboommbclbjlnaaDoorW.PrintMore Go.Proofs.YtboommbclbjlnaaDoor.Lf
attribute [local go_sem] max2_int min2_int max_two min_two max_three min_three max_four min_four   -- for this text's walks alone
set_option linter.unusedVariables false
set_option linter.unusedSimpArgs false

/-! ### step_Groups: function 24 -/
def step_Groups.l0 : Nat → List (S24) → List (S44) → Int → List (S24) → Int → Int → Option ((List (S44)) × Int)
 | 0, _, _, _, _, _, _ => none
 | k + 1, x0, x4, x5, x8, x9, x10 => if x10 < x9 then (if 0 ≤ x10 then (if x10 < (x8.length : Int) then (if ((rd_T24 x8 x10).f0) = 8 then (if 0 ≤ x5 then (if x5 ≤ x10 then (if x10 ≤ (x0.length : Int) then ((step_Step.f ((x0.take (x10 : Int).toNat).drop (x5 : Int).toNat)).bind fun t178 => (if x4.length < 4398046511104 then (step_Groups.l0 k x0 (x4 ++ [(⟨(rd_T24 x8 x10).f3, t178⟩ : S44)]) (wrap64 (x10 + 1)) x8 x9 (wrap64 (x10 + 1))) else (none))) else (none)) else (none)) else (none)) else (step_Groups.l0 k x0 x4 x5 x8 x9 (wrap64 (x10 + 1)))) else (none)) else (none)) else (some (x4, x5))
def step_Groups.f (k : Nat) (l0 : List (S24)) : Option ((List (S44)) × Int) := step_Groups.l0 k l0 ([] : List (S44)) 0 l0 (l0.length : Int) 0
theorem step_Groups.mono_l : ∀ k, (∀ y0 y1 y2 y3 y4 y5, LeO (step_Groups.l0 k y0 y1 y2 y3 y4 y5) (step_Groups.l0 (k + 1) y0 y1 y2 y3 y4 y5))
 | 0 => fun _ _ _ _ _ _ r h => by simp [step_Groups.l0] at h
 | k + 1 => by
  have ih0 := step_Groups.mono_l k
  ·intro y0 y1 y2 y3 y4 y5
   unfold step_Groups.l0
   repeat' first
   | (with_reducible exact ih0 _ _ _ _ _ _)
   | (with_reducible exact LeO.refl _)
   | (with_reducible exact LeO.none _)
   | (with_reducible refine LeO.ite ?_ ?_)
   | (with_reducible refine LeO.bind ?_ (fun _ => ?_))
   | exact ih0 _ _ _ _ _ _
   | exact LeO.none _
   | refine LeO.ite ?_ ?_
   | refine LeO.bind ?_ (fun _ => ?_)
theorem step_Groups.mono : ∀ a0 k, LeO (step_Groups.f k a0) (step_Groups.f (k + 1) a0) := by
 intro a0 k
 have ih0 := step_Groups.mono_l k
 unfold step_Groups.f
 repeat' first
   | (with_reducible exact ih0 _ _ _ _ _ _)
   | (with_reducible exact LeO.refl _)
   | (with_reducible exact LeO.none _)
   | (with_reducible refine LeO.ite ?_ ?_)
   | (with_reducible refine LeO.bind ?_ (fun _ => ?_))
   | exact ih0 _ _ _ _ _ _
   | exact LeO.none _
   | refine LeO.ite ?_ ?_
   | refine LeO.bind ?_ (fun _ => ?_)
def step_Groups.T7 : Bool × List (List Nat × List Nat) := (true, [([], []), ([], []), ([1], [1]), ([], []), ([], []), ([], []), ([3, 4, 5], [3, 4, 5]), ([6], [6]), ([2, 7], [2, 7]), ([8], [8]), ([0, 9, 7], [0, 9]), ([10, 10, 0, 1, 2, 3, 4, 5, 6, 7, 8, 9, 10], [0, 10])])
def step_Groups.B7 : List Nat := [0, 0, 2, 0, 0, 0, 56, 120, 254, 510, 1023, 2047]
theorem step_Groups.tab7 : rtab .any (opsOf Tryd.f24 7) = step_Groups.T7 := by kernel_rfl
theorem step_Groups.bits7 : waitsOk step_Groups.T7.2 step_Groups.B7 = true := by kernel_rfl
set_option maxHeartbeats 8000000 in
set_option maxRecDepth 100000 in
theorem step_Groups.calls (k : Nat) (A0 : Option Addr) (c0 : Nat) (l0 : List (S24)) (r1 : List (S44)) (r2 : Int) (w : World) (hr0 : Kd.C k24 w A0 l0.length l0) (hc0 : l0.length ≤ c0) (h : step_Groups.f k l0 = some (r1, r2)) :
  Calls Tryd.prog 24 #[.slice A0 l0.length c0] w fun e w' => ∃ v0_ : Value, e = .returned (.tuple #[v0_, .int .i64 r2]) ∧ Kd.S k44 44 w' w.heap.size (fun _ => True) v0_ r1 ∧ Below w.heap.size w w' := by
 have hu24 := Tryd.underlying24
 have hu44 := Tryd.underlying44
 have HR0 := Aside0.mk hr0
 have HC0 := Aside0.mk hc0
 clear hr0 hc0
 have HB := Aside0.mk (Below.refl w.heap.size w)
 have H : (step_Groups.l0 k l0 ([] : List (S44)) 0 l0 (l0.length : Int) 0) = some (r1, r2) := h
 clear h
 have H' := Aside0.mk H
 clear H
 go_enter Tryd.func24, Tryd.ntmps24
 go_wp2
 go_loopg [4, 5, 10] k (fun kq v4 v5 v10 w' => ∃ (x4_1 : List (S44)) (x5_1 : Int) (x10_1 : Int), v5 = .int .i64 x5_1 ∧ v10 = .int .i64 x10_1 ∧ Aside0 (step_Groups.l0 kq l0 x4_1 x5_1 l0 (l0.length : Int) x10_1 = some (r1, r2)) ∧ Aside0 (kq ≤ k) ∧ Aside0 (Kd.S k44 44 w' w.heap.size (fun _ => True) v4 x4_1) ∧ Aside0 (Below w.heap.size w w'))
 case atStart => exact ⟨(([] : List (S44))), (0), (0), (by first | rfl | (simp; done) | (simp [*]; done)), (by first | rfl | (simp; done) | (simp [*]; done)), H', ⟨Nat.le_refl _⟩, ⟨by first | exact Kd.S_nil _ _ _ _ _ | exact Kd.N_nil _ _ _ _ _ | exact Kd.V_nil _ _ _ _ _ | exact Kd.Q_nil _ _ _ _ _ | exact Kd.R_nil _ _ _ _ _⟩, ⟨by repeat (first | (with_reducible first | exact HB.out | apply below_alloc | apply pw_below_drewN | apply below_drew1) | exact HB.out)⟩⟩
 case round =>
  clear H'
  obtain ⟨x4_1, x5_1, x10_1, rfl, rfl, HA, HK1, HO_4, HB⟩ := hrel
  cases gk with
  | zero => exact absurd HA.out (by simp [step_Groups.l0])
  | succ k1 =>
   have H := HA.out
   clear HA
   simp only [step_Groups.l0] at H
   by_cases c2 : x10_1 < (l0.length : Int)
   ·rw [if_pos c2] at H
    have c2b0 : decide (x10_1 < (l0.length : Int)) = true := decide_eq_true c2
    clear c2
    by_cases c3 : 0 ≤ x10_1
    ·rw [if_pos c3] at H
     have c3b0 : decide (0 ≤ x10_1) = true := decide_eq_true c3
     clear c3
     by_cases c4 : x10_1 < (l0.length : Int)
     ·rw [if_pos c4] at H
      have c4b0 : decide (x10_1 < (l0.length : Int)) = true := decide_eq_true c4
      clear c4
      by_cases c5 : ((rd_T24 l0 x10_1).f0) = 8
      ·rw [if_pos c5] at H
       have c5b0 : (((rd_T24 l0 x10_1).f0) == 8) = true := beq_iff_eq.mpr c5
       have c5b1 : (((rd_T24 l0 x10_1).f0) != 8) = false := bne_eq_false_iff_eq.mpr c5
       clear c5
       by_cases c6 : 0 ≤ x5_1
       ·rw [if_pos c6] at H
        have c6b0 := eq_true c6
        have c6b1 : decide (0 ≤ x5_1) = true := decide_eq_true c6
        clear c6
        by_cases c7 : x5_1 ≤ x10_1
        ·rw [if_pos c7] at H
         have c7b0 := eq_true c7
         have c7b1 : decide (x5_1 ≤ x10_1) = true := decide_eq_true c7
         clear c7
         by_cases c8 : x10_1 ≤ (l0.length : Int)
         ·rw [if_pos c8] at H
          have c8b0 := eq_true c8
          have c8b1 : decide (x10_1 ≤ (l0.length : Int)) = true := decide_eq_true c8
          clear c8
          obtain ⟨y174, hy174⟩ : ∃ y_ : List (S24), y_ = ((l0.take (x10_1 : Int).toNat).drop (x5_1 : Int).toNat) := ⟨_, rfl⟩
          replace H : ((step_Step.f y174).bind fun t178 => (if x4_1.length < 4398046511104 then (step_Groups.l0 k1 l0 (x4_1 ++ [(⟨(rd_T24 l0 x10_1).f3, t178⟩ : S44)]) (wrap64 (x10_1 + 1)) l0 (l0.length : Int) (wrap64 (x10_1 + 1))) else (none))) = some (r1, r2) := by first | (rw [hy174]; with_reducible exact H) | (have H2_ := (Option.bind_some _ _).symm.trans H; rw [hy174]; with_reducible exact H2_) | (have H2_ := (Option.bind_some _ _).symm.trans H; with_reducible exact H2_) | with_reducible exact H | (rw [hy174]; exact H) | exact H
          have Ny174 := Aside0.mk hy174
          clear hy174
          replace H := Option.bind_eq_some_iff.mp H
          obtain ⟨t178, A90, H⟩ := H
          replace H : (if x4_1.length < 4398046511104 then (step_Groups.l0 k1 l0 (x4_1 ++ [(⟨(rd_T24 l0 x10_1).f3, t178⟩ : S44)]) (wrap64 (x10_1 + 1)) l0 (l0.length : Int) (wrap64 (x10_1 + 1))) else (none)) = some (r1, r2) := H
          have A9 := Aside0.mk A90
          clear A90
          by_cases c10 : x4_1.length < 4398046511104
          ·rw [if_pos c10] at H
           have LMc10 := Aside0.mk c10
           clear c10
           obtain ⟨y181, hy181⟩ : ∃ y_ : List (S44), y_ = (x4_1 ++ [(⟨(rd_T24 l0 x10_1).f3, t178⟩ : S44)]) := ⟨_, rfl⟩
           replace H : (step_Groups.l0 k1 l0 y181 (wrap64 (x10_1 + 1)) l0 (l0.length : Int) (wrap64 (x10_1 + 1))) = some (r1, r2) := by first | (rw [hy181]; with_reducible exact H) | (have H2_ := (Option.bind_some _ _).symm.trans H; rw [hy181]; with_reducible exact H2_) | (have H2_ := (Option.bind_some _ _).symm.trans H; with_reducible exact H2_) | with_reducible exact H | (rw [hy181]; exact H) | exact H
           have Ny181 := Aside0.mk hy181
           clear hy181
           have H' := Aside0.mk H
           clear H
           have p172 : 0 ≤ (x10_1 : Int) := of_decide_eq_true (by first | (with_reducible assumption) | assumption)
           have q172 : x10_1 < (l0.length : Int) := of_decide_eq_true (by first | (with_reducible assumption) | assumption)
           obtain ⟨ad172, e172, hx172_0, hx172_1, hx172_2, hx172_3, hx172_4⟩ := at_T24 HR0.out x10_1 p172 q172
           cases e172
           replace hx172_0 := (HB.out.cell (World.block_lt_of_cell? w _ hx172_0)).trans hx172_0
           replace hx172_1 := (HB.out.cell (World.block_lt_of_cell? w _ hx172_1)).trans hx172_1
           replace hx172_2 := (HB.out.cell (World.block_lt_of_cell? w _ hx172_2)).trans hx172_2
           replace hx172_3 := (HB.out.cell (World.block_lt_of_cell? w _ hx172_3)).trans hx172_3
           replace hx172_4 := (HB.out.cell (World.block_lt_of_cell? w _ hx172_4)).trans hx172_4
           replace p172 := eq_true p172
           replace q172 := eq_true q172
           try go_wp2_with (first | ((with_reducible refine gate_dst (N := 7) rfl ?_); refine box_event ?hg (N := 7) ?hd (cs := #[.int .i64 0, .int .i64 0, .int .i64 0, .int .u64 0, .string (⟨#[]⟩ : ByteArray)]) (t := 24) ?hr ?_; (case hd => rfl); (case hg => rfl); (case hr => first | (go_simp; done) | (go_simp; rfl)); intro gb173 hg w11 hbox hb; have n0_ := Aside0.mk (Kd.S_below (Kd.S_elderB (by (with_reducible repeat (first | apply Kd.S_alloc | apply Kd.S_drewN | apply Kd.S_drew)); exact HO_4.out) gb173 (Nat.le_of_eq hg.symm)) hb); have n1_ := Aside0.mk (below_step (by repeat (first | (with_reducible first | exact HB.out | apply below_alloc | apply pw_below_drewN | apply below_drew1) | exact HB.out)) hb); have n2_ := Aside0.mk (hbox); have n3_ := Aside0.mk ((by rw [hg]; exact (below_size (by repeat (first | (with_reducible first | exact HB.out | apply below_alloc | apply pw_below_drewN | apply below_drew1) | exact HB.out))) : w.heap.size ≤ gb173)); have n4_ := Aside0.mk ((by rw [hg]; exact (below_size (by repeat (first | (with_reducible first | exact HB.out | apply below_alloc | apply pw_below_drewN | apply below_drew1) | exact HB.out))) : w.heap.size ≤ gb173)); clear HO_4; clear HB; have HO_4 := n0_; have HB := n1_; have BK173 := n2_; have GW173 := n3_; have GE173 := n4_; clear n0_ n1_ n2_ n3_ n4_; clear hb hbox hg; have hcz12_0 : w11.cell? ⟨gb173, 0, none⟩ = some (.int .i64 0) := (blk_cell BK173.out 0).trans rfl; have hcz12_1 : w11.cell? ⟨gb173, 1, none⟩ = some (.int .i64 0) := (blk_cell BK173.out 1).trans rfl; have hcz12_2 : w11.cell? ⟨gb173, 2, none⟩ = some (.int .i64 0) := (blk_cell BK173.out 2).trans rfl; have hcz12_3 : w11.cell? ⟨gb173, 3, none⟩ = some (.int .u64 0) := (blk_cell BK173.out 3).trans rfl; have hcz12_4 : w11.cell? ⟨gb173, 4, none⟩ = some (.string (⟨#[]⟩ : ByteArray)) := (blk_cell BK173.out 4).trans rfl; have hfz12_0 := blk_frozen BK173.out 0; have hfz12_1 := blk_frozen BK173.out 1; have hfz12_2 := blk_frozen BK173.out 2; have hfz12_3 := blk_frozen BK173.out 3; have hfz12_4 := blk_frozen BK173.out 4))
           have n0_ : Aside0 (Kd.S k44 44 (((((w11.setCell ⟨gb173, 0, none⟩ (.int .i64 ((rd_T24 l0 x10_1).f0))).setCell ⟨gb173, 1, none⟩ (.int .i64 ((rd_T24 l0 x10_1).f1))).setCell ⟨gb173, 2, none⟩ (.int .i64 ((rd_T24 l0 x10_1).f2))).setCell ⟨gb173, 3, none⟩ (.int .u64 ((rd_T24 l0 x10_1).f3))).setCell ⟨gb173, 4, none⟩ (.string ((rd_T24 l0 x10_1).f4))) w.heap.size (fun k_ => k_ ≠ gb173) u4 x4_1) := ⟨by (with_reducible repeat (first | apply Kd.S_alloc | apply Kd.S_drewN | apply Kd.S_drew)); exact Kd.S_mono (Kd.S_far (p := ⟨gb173, 4, none⟩) (Kd.S_far (p := ⟨gb173, 3, none⟩) (Kd.S_far (p := ⟨gb173, 2, none⟩) (Kd.S_far (p := ⟨gb173, 1, none⟩) (Kd.S_far (p := ⟨gb173, 0, none⟩) (Kd.S_mono HO_4.out (fun k_ hk => (⟨hk, hk.2⟩ : _ ∧ k_ ≠ gb173))) (fun _ hk => hk.2) (.int .i64 ((rd_T24 l0 x10_1).f0))) (fun _ hk => hk.2) (.int .i64 ((rd_T24 l0 x10_1).f1))) (fun _ hk => hk.2) (.int .i64 ((rd_T24 l0 x10_1).f2))) (fun _ hk => hk.2) (.int .u64 ((rd_T24 l0 x10_1).f3))) (fun _ hk => hk.2) (.string ((rd_T24 l0 x10_1).f4))) (fun _ hk => hk.1.2)⟩
           have n1_ : Aside0 ((((((w11.setCell ⟨gb173, 0, none⟩ (.int .i64 ((rd_T24 l0 x10_1).f0))).setCell ⟨gb173, 1, none⟩ (.int .i64 ((rd_T24 l0 x10_1).f1))).setCell ⟨gb173, 2, none⟩ (.int .i64 ((rd_T24 l0 x10_1).f2))).setCell ⟨gb173, 3, none⟩ (.int .u64 ((rd_T24 l0 x10_1).f3))).setCell ⟨gb173, 4, none⟩ (.string ((rd_T24 l0 x10_1).f4))).heap[gb173]? = some (.cells #[.int .i64 ((rd_T24 l0 x10_1).f0), .int .i64 ((rd_T24 l0 x10_1).f1), .int .i64 ((rd_T24 l0 x10_1).f2), .int .u64 ((rd_T24 l0 x10_1).f3), .string ((rd_T24 l0 x10_1).f4)] 24 (0, 0))) := ⟨by (with_reducible repeat (first | refine blk_drewN ?_ _ | refine blk_drew ?_ | refine blk_alloc ?_ _)); refine blk_put (cs := #[.int .i64 ((rd_T24 l0 x10_1).f0), .int .i64 ((rd_T24 l0 x10_1).f1), .int .i64 ((rd_T24 l0 x10_1).f2), .int .u64 ((rd_T24 l0 x10_1).f3), .string (⟨#[]⟩ : ByteArray)]) ?_ 4 _ rfl; (with_reducible repeat (first | refine blk_drewN ?_ _ | refine blk_drew ?_ | refine blk_alloc ?_ _)); refine blk_put (cs := #[.int .i64 ((rd_T24 l0 x10_1).f0), .int .i64 ((rd_T24 l0 x10_1).f1), .int .i64 ((rd_T24 l0 x10_1).f2), .int .u64 0, .string (⟨#[]⟩ : ByteArray)]) ?_ 3 _ rfl; (with_reducible repeat (first | refine blk_drewN ?_ _ | refine blk_drew ?_ | refine blk_alloc ?_ _)); refine blk_put (cs := #[.int .i64 ((rd_T24 l0 x10_1).f0), .int .i64 ((rd_T24 l0 x10_1).f1), .int .i64 0, .int .u64 0, .string (⟨#[]⟩ : ByteArray)]) ?_ 2 _ rfl; (with_reducible repeat (first | refine blk_drewN ?_ _ | refine blk_drew ?_ | refine blk_alloc ?_ _)); refine blk_put (cs := #[.int .i64 ((rd_T24 l0 x10_1).f0), .int .i64 0, .int .i64 0, .int .u64 0, .string (⟨#[]⟩ : ByteArray)]) ?_ 1 _ rfl; (with_reducible repeat (first | refine blk_drewN ?_ _ | refine blk_drew ?_ | refine blk_alloc ?_ _)); refine blk_put (cs := #[.int .i64 0, .int .i64 0, .int .i64 0, .int .u64 0, .string (⟨#[]⟩ : ByteArray)]) ?_ 0 _ rfl; (with_reducible repeat (first | refine blk_drewN ?_ _ | refine blk_drew ?_ | refine blk_alloc ?_ _)); exact BK173.out⟩
           have n2_ : Aside0 (Below w.heap.size w (((((w11.setCell ⟨gb173, 0, none⟩ (.int .i64 ((rd_T24 l0 x10_1).f0))).setCell ⟨gb173, 1, none⟩ (.int .i64 ((rd_T24 l0 x10_1).f1))).setCell ⟨gb173, 2, none⟩ (.int .i64 ((rd_T24 l0 x10_1).f2))).setCell ⟨gb173, 3, none⟩ (.int .u64 ((rd_T24 l0 x10_1).f3))).setCell ⟨gb173, 4, none⟩ (.string ((rd_T24 l0 x10_1).f4)))) := ⟨by repeat (first | (with_reducible first | exact HB.out | apply below_alloc | apply pw_below_drewN | apply below_drew1 | refine below_set ?_ GE173.out) | exact HB.out)⟩
           (try clear HO_4)
           (try clear BK173)
           (try clear HB)
           generalize (((((w11.setCell ⟨gb173, 0, none⟩ (.int .i64 ((rd_T24 l0 x10_1).f0))).setCell ⟨gb173, 1, none⟩ (.int .i64 ((rd_T24 l0 x10_1).f1))).setCell ⟨gb173, 2, none⟩ (.int .i64 ((rd_T24 l0 x10_1).f2))).setCell ⟨gb173, 3, none⟩ (.int .u64 ((rd_T24 l0 x10_1).f3))).setCell ⟨gb173, 4, none⟩ (.string ((rd_T24 l0 x10_1).f4))) = w13 at n0_ n1_ n2_ ⊢
           have HO_4 := n0_
           have BK173 := n1_
           have HB := n2_
           clear n0_ n1_ n2_
           have n0_ := Aside0.mk (Kd.S_drew HO_4.out)
           have n1_ := Aside0.mk (blk_drew BK173.out)
           have n2_ := Aside0.mk (below_drew1 HB.out)
           clear HO_4
           clear BK173
           clear HB
           have HO_4 := n0_
           have BK173 := n1_
           have HB := n2_
           clear n0_ n1_ n2_
           have q15 : (x10_1 : Int) ≤ ((l0.length : Int) : Int) := of_decide_eq_true (by first | (with_reducible assumption) | assumption)
           obtain ⟨i015, hi015, _, hsz15, _⟩ := info_parts info24
           have hroom15 : l0.length ≤ c0 := HC0.out
           have hC15 : Kd.C k24 _ (some ad172) l0.length l0 := HR0.out
           have ql15 : (x5_1 : Int) ≤ (x10_1 : Int) := of_decide_eq_true (by first | (with_reducible assumption) | assumption)
           have q015 : (0 : Int) ≤ (x5_1 : Int) := of_decide_eq_true (by first | (with_reducible assumption) | assumption)
           have hcut15 := cut_mid (P := Tryd.prog) 29 24 .i64 .i64 Tryd.underlying29 hi015 5 hsz15 (some ad172) l0.length c0 x5_1 x10_1 q015 ql15 q15 hroom15
           have hr15 := Kd.C_mid (lo := (x5_1 : Int).toNat) (hi := (x10_1 : Int).toNat) (c := c0) hC15 (by omega) (by omega) hroom15
           obtain ⟨A15, hA15⟩ : ∃ A1, A1 = (if c0 = (x5_1 : Int).toNat then (some ad172) else ((some ad172) : Option Addr).map (·.add ((x5_1 : Int).toNat * 5))) := ⟨_, rfl⟩
           obtain ⟨c15, hc15⟩ : ∃ c1, c1 = c0 - (x5_1 : Int).toNat := ⟨_, rfl⟩
           have hy15 : y174.length = (x10_1 : Int).toNat - (x5_1 : Int).toNat := (by rw [Ny174.out, List.length_drop, List.length_take] <;> omega)
           rw [show ((l0).take (x10_1 : Int).toNat).drop (x5_1 : Int).toNat = y174 from Ny174.out.symm] at hr15
           replace hr15 : Kd.C k24 _ A15 y174.length y174 := (by rw [hA15]; exact hr15)
           rw [← hy15, ← hA15, ← hc15] at hcut15
           have HR177 := Aside0.mk hr15
           have HC177 := Aside0.mk (show y174.length ≤ c15 from by rw [hy15, hc15]; exact Nat.sub_le_sub_right (Nat.le_trans (by omega) hroom15) _)
           clear hr15 hC15 hroom15 hi015 hsz15 hc15
           have KY15 := Aside0.mk hy15
           have KA15 := Aside0.mk hA15
           clear hy15 hA15
           replace q15 := eq_true q15
           refine start_ (n := 12) (S := fun w' => w'.cell? ⟨gb173, 0, none⟩ = some (.int .i64 ((rd_T24 l0 x10_1).f0)) ∧ w'.cell? ⟨gb173, 1, none⟩ = some (.int .i64 ((rd_T24 l0 x10_1).f1)) ∧ w'.cell? ⟨gb173, 2, none⟩ = some (.int .i64 ((rd_T24 l0 x10_1).f2)) ∧ w'.cell? ⟨gb173, 3, none⟩ = some (.int .u64 ((rd_T24 l0 x10_1).f3)) ∧ w'.cell? ⟨gb173, 4, none⟩ = some (.string ((rd_T24 l0 x10_1).f4))) (ds := []) #[false, false, false, false, false, false, false, false, false, false, false, false] (by kernel_rfl) rfl rfl ⟨(blk_cell BK173.out 0).trans rfl, (blk_cell BK173.out 1).trans rfl, (blk_cell BK173.out 2).trans rfl, (blk_cell BK173.out 3).trans rfl, (blk_cell BK173.out 4).trans rfl⟩ (fun hHeld => ?_); refine with_tabW step_Groups.tab7 step_Groups.bits7 (fun HT_ HW_ => ?_)
           generalize w13.drew = w14 at HO_4 BK173 HB HR177 hHeld ⊢
           refine pure_ (i := 0) (N := some 18) (v := ?_) (a' := ?_) #[true, false, false, false, false, false, false, false, false, false, false, false] rfl rfl (any_of HT_.out (by kernel_rfl)) (fun _ _ _ h => h) (Or.inl ⟨by rfl, ?_⟩) ?_ ?_
           rotate_left
           ·intro w'
            go_simp
            with_reducible rfl
           rotate_left
           ·simp only [Act.put, List.setIfInBounds_toArray, List.set_cons_zero, List.set_cons_succ, i64_w, i32_w]
            rfl
           refine pure_ (i := 1) (N := some 19) (v := ?_) (a' := ?_) #[true, true, false, false, false, false, false, false, false, false, false, false] rfl rfl (any_of HT_.out (by kernel_rfl)) (fun _ _ _ h => h) (Or.inl ⟨by rfl, ?_⟩) ?_ ?_
           rotate_left
           ·intro w'
            go_simp
            with_reducible rfl
           rotate_left
           ·simp only [Act.put, List.setIfInBounds_toArray, List.set_cons_zero, List.set_cons_succ, i64_w, i32_w]
            rfl
           refine pure_ (i := 3) (N := some 21) (v := ?_) (a' := ?_) #[true, true, false, true, false, false, false, false, false, false, false, false] rfl rfl (any_of HT_.out (by kernel_rfl)) (fun _ _ _ h => h) (Or.inl ⟨by rfl, ?_⟩) ?_ ?_
           rotate_left
           ·intro w'
            go_simp
            with_reducible rfl
           rotate_left
           ·simp only [Act.put, List.setIfInBounds_toArray, List.set_cons_zero, List.set_cons_succ, i64_w, i32_w]
            rfl
           refine pure_ (i := 4) (N := some 22) (v := ?_) (a' := ?_) #[true, true, false, true, true, false, false, false, false, false, false, false] rfl rfl (any_of HT_.out (by kernel_rfl)) (fun _ _ _ h => h) (Or.inl ⟨by rfl, ?_⟩) ?_ ?_
           rotate_left
           ·intro w'
            go_simp
            with_reducible rfl
           rotate_left
           ·simp only [Act.put, List.setIfInBounds_toArray, List.set_cons_zero, List.set_cons_succ, i64_w, i32_w]
            rfl
           refine pure_ (i := 5) (N := some 23) (v := ?_) (a' := ?_) #[true, true, false, true, true, true, false, false, false, false, false, false] rfl rfl (any_of HT_.out (by kernel_rfl)) (fun _ _ _ h => h) (Or.inl ⟨by rfl, ?_⟩) ?_ ?_
           rotate_left
           ·intro w'
            go_simp
            with_reducible rfl
           rotate_left
           ·simp only [Act.put, List.setIfInBounds_toArray, List.set_cons_zero, List.set_cons_succ, i64_w, i32_w]
            rfl
           refine pure_ (i := 6) (N := some 24) (v := ?_) (a' := ?_) #[true, true, false, true, true, true, true, false, false, false, false, false] rfl rfl (any_of HT_.out (by kernel_rfl)) (fun _ _ _ h => h) (Or.inl ⟨by rfl, ?_⟩) ?_ ?_
           rotate_left
           ·intro w'
            go_simp
            with_reducible rfl
           rotate_left
           ·simp only [Act.put, List.setIfInBounds_toArray, List.set_cons_zero, List.set_cons_succ, i64_w, i32_w]
            rfl
           refine take_ (i := 2) (N := some 20) (v := ?_) (a' := ?_) #[true, true, true, true, true, true, true, false, false, false, false, false] rfl rfl (take_ofW HT_.out HW_.out (by kernel_rfl)) (fun _ _ _ h => h) (Or.inl ⟨by rfl, ?_⟩) hHeld ?_ ?_
           rotate_left
           ·rintro w' ⟨s0, s1, s2, s3, s4⟩
            go_simp
            with_reducible rfl
           rotate_left
           ·simp only [Act.put, List.setIfInBounds_toArray, List.set_cons_zero, List.set_cons_succ, i64_w, i32_w]
            rfl
           refine one_ (i := 7) (N := some 25) #[true, true, true, true, true, true, true, true, false, false, false, false] rfl rfl (one_of HT_.out (by kernel_rfl)) (by decide) (fun K hK => ?_)
           refine goes_ Tryd.func53 (by kernel_rfl) rfl #[.slice A15 y174.length c15] (by rfl) rfl rfl (by (try simp only [List.map_toArray, List.map_cons, List.map_nil]); first | done | rfl | (simp only [List.length_drop, List.length_take]; rfl) | (rw [wrap_sum2 (by assumption)]; rfl)) ?_
           with_reducible refine (step_Step.calls _ _ y174 t178 _ ?side1 ?side2 A9.out).mono ?_
           (case side1 => repeat (first | exact (Kd.C_below HR177.out HB.out) | (with_reducible refine Kd.C_alloc ?_ _) | (with_reducible refine Kd.C_drewN ?_ _) | (with_reducible refine Kd.C_drew ?_)))
           (case side2 => exact HC177.out)
           rintro e w16 ⟨v179, rfl, ho0, hb⟩
           refine ⟨_, rfl, ?_⟩
           have n0_ := Aside0.mk (Kd.S_elder' (by (with_reducible repeat (first | apply Kd.S_alloc | apply Kd.S_drewN | apply Kd.S_drew)); exact HO_4.out) (Kd.R_base ho0) hb)
           have n1_ := Aside0.mk (Kd.R_lower (Kd.R_newB ho0 (g := gb173) (o := .cells #[.int .i64 ((rd_T24 l0 x10_1).f0), .int .i64 ((rd_T24 l0 x10_1).f1), .int .i64 ((rd_T24 l0 x10_1).f2), .int .u64 ((rd_T24 l0 x10_1).f3), .string ((rd_T24 l0 x10_1).f4)] 24 (0, 0)) (by (with_reducible repeat (first | refine blk_drewN ?_ _ | refine blk_drew ?_ | refine blk_alloc ?_ _)); exact BK173.out)) (below_size (by repeat (first | (with_reducible first | exact HB.out | apply below_alloc | apply pw_below_drewN | apply below_drew1 | refine below_set ?_ GE173.out) | exact HB.out))))
           have n2_ := Aside0.mk (blk_below (g := gb173) (o := .cells #[.int .i64 ((rd_T24 l0 x10_1).f0), .int .i64 ((rd_T24 l0 x10_1).f1), .int .i64 ((rd_T24 l0 x10_1).f2), .int .u64 ((rd_T24 l0 x10_1).f3), .string ((rd_T24 l0 x10_1).f4)] 24 (0, 0)) (by (with_reducible repeat (first | refine blk_drewN ?_ _ | refine blk_drew ?_ | refine blk_alloc ?_ _)); exact BK173.out) hb)
           have n3_ := Aside0.mk (below_step (by repeat (first | (with_reducible first | exact HB.out | apply below_alloc | apply pw_below_drewN | apply below_drew1 | refine below_set ?_ GE173.out) | exact HB.out)) hb)
           clear HO_4
           clear BK173
           clear HB
           have HO_4 := n0_
           have HO180 := n1_
           have BK173 := n2_
           have HB := n3_
           clear n0_ n1_ n2_ n3_
           (try clear hb)
           (try clear hb2)
           (try clear hk)
           (try clear hi)
           (try clear ho0)
           obtain ⟨Ao17, co17, eo17⟩ := Kd.R_slice HO180.out
           (first | subst eo17 | (injection eo17 with f1_ f2_ f3_; have f4_ := f1_.symm; have f5_ := f3_.symm; clear f1_ f2_ f3_; subst f4_; subst f5_))
           refine hK.out _ _ ⟨(blk_cell BK173.out 0).trans rfl, (blk_cell BK173.out 1).trans rfl, (blk_cell BK173.out 2).trans rfl, (blk_cell BK173.out 3).trans rfl, (blk_cell BK173.out 4).trans rfl⟩ (fun hHeld => ?_)
           clear hK K
           refine norm_ (a' := ?_) ?_ ?_
           rotate_left
           ·show Act.put _ (some 25) _ = _
            simp only [Act.put, List.setIfInBounds_toArray, List.set_cons_zero, List.set_cons_succ, i64_w, i32_w]
            rfl
           refine pure_ (i := 8) (N := some 26) (v := ?_) (a' := ?_) #[true, true, true, true, true, true, true, true, true, false, false, false] rfl rfl (any_of HT_.out (by kernel_rfl)) (fun _ _ _ h => h) (Or.inl ⟨by rfl, ?_⟩) ?_ ?_
           rotate_left
           ·intro w'
            go_simp
            with_reducible rfl
           rotate_left
           ·simp only [Act.put, List.setIfInBounds_toArray, List.set_cons_zero, List.set_cons_succ, i64_w, i32_w]
            rfl
           refine one_ (i := 9) (N := some 27) #[true, true, true, true, true, true, true, true, true, true, false, false] rfl rfl (one_of HT_.out (by kernel_rfl)) (by decide) (fun K hK => ?_)
           refine value_ (w1 := ?_) (v := ?_) (by rfl) rfl ?_ ?_
           rotate_left 2
           ·go_simp
            constructor
            ·rfl
            ·rfl
           refine hK.out _ _ ⟨(blk_cell (blk_alloc BK173.out _) 0).trans rfl, (blk_cell (blk_alloc BK173.out _) 1).trans rfl, (blk_cell (blk_alloc BK173.out _) 2).trans rfl, (blk_cell (blk_alloc BK173.out _) 3).trans rfl, (blk_cell (blk_alloc BK173.out _) 4).trans rfl⟩ (fun hHeld => ?_)
           clear hK K
           refine norm_ (a' := ?_) ?_ ?_
           rotate_left
           ·show Act.put _ (some 27) _ = _
            simp only [Act.put, List.setIfInBounds_toArray, List.set_cons_zero, List.set_cons_succ, i64_w, i32_w]
            rfl
           refine one_ (i := 10) (N := some 28) #[true, true, true, true, true, true, true, true, true, true, true, false] rfl rfl (one_of HT_.out (by kernel_rfl)) (by decide) (fun K hK => ?_)
           refine Kd.S_append_step k44 (w0 := w) w.heap.size (by rfl) (.tmp 18) (.tmp 27) 37 44 (.agg #[(.int .u64 0), (.slice none 0 0)]) 32 rfl Tryd.underlying37 info44 rfl (by decide) (by omega) u4 x4_1 (⟨(rd_T24 l0 x10_1).f3, t178⟩ : S44) [.int .u64 ((rd_T24 l0 x10_1).f3), .slice Ao17 t178.length co17] (fun k_ => k_ ≠ gb173) (fun k_ => some k_ = (.slice Ao17 t178.length co17 : Value).ownBlock) rfl rfl ?aP (fun k_ hk_ => ((Kd.R_mono (ok' := fun k_ => ((fun k_ => k_ ≠ gb173)) k_ ∧ some k_ ≠ (u4 : Value).ownBlock) (Kd.R_apart' (HO180.out) (Kd.S_typed HO_4.out) (by decide)) (fun k_ hk => ⟨hk.1.2, hk.2⟩))).1 k_ hk_.symm) ?aF ?aO ?aB ?aS ?aL ?_
           (case aP => exact k44_mkM _ _ _ (⟨(rd_T24 l0 x10_1).f3, t178⟩ : S44) (Kd.R_mono (Kd.R_tight rfl (Kd.R_mono (ok' := fun k_ => ((fun k_ => k_ ≠ gb173)) k_ ∧ some k_ ≠ (u4 : Value).ownBlock) (Kd.R_apart' (HO180.out) (Kd.S_typed HO_4.out) (by decide)) (fun k_ hk => ⟨hk.1.2, hk.2⟩))) (fun _ h_ => h_)))
           (case aB => exact (by repeat (first | (with_reducible first | exact HB.out | apply below_alloc | apply pw_below_drewN | apply below_drew1 | refine below_set ?_ GE173.out) | exact HB.out)))
           (case aF => exact (fun k_ hk => Kd.freshB (g := gb173) (o := .cells #[.int .i64 ((rd_T24 l0 x10_1).f0), .int .i64 ((rd_T24 l0 x10_1).f1), .int .i64 ((rd_T24 l0 x10_1).f2), .int .u64 ((rd_T24 l0 x10_1).f3), .string ((rd_T24 l0 x10_1).f4)] 24 (0, 0)) (by (with_reducible repeat (first | refine blk_drewN ?_ _ | refine blk_drew ?_ | refine blk_alloc ?_ _)); exact BK173.out) k_ hk))
           (case aO => exact (by (with_reducible repeat (first | apply Kd.S_alloc | apply Kd.S_drewN | apply Kd.S_drew)); exact Kd.S_mono HO_4.out (fun k_ hk => ⟨hk.1, fun e_ => hk.2 e_⟩)))
           (case aS => exact (below_size (by repeat (first | (with_reducible first | exact HB.out | apply below_alloc | apply pw_below_drewN | apply below_drew1 | refine below_set ?_ GE173.out) | exact HB.out))))
           (case aL => have := LMc10.out; omega)
           intro v182 w18 ho hb hg hat
           rw [← Ny181.out] at ho
           have n0_ := Aside0.mk (blk_grown (g := gb173) (o := .cells #[.int .i64 ((rd_T24 l0 x10_1).f0), .int .i64 ((rd_T24 l0 x10_1).f1), .int .i64 ((rd_T24 l0 x10_1).f2), .int .u64 ((rd_T24 l0 x10_1).f3), .string ((rd_T24 l0 x10_1).f4)] 24 (0, 0)) (by (with_reducible repeat (first | refine blk_drewN ?_ _ | refine blk_drew ?_ | refine blk_alloc ?_ _)); exact BK173.out) hg (Kd.S_ne HO_4.out BK173.out (by decide)))
           have n1_ := Aside0.mk (hb)
           have n2_ := Aside0.mk (ho)
           clear BK173
           clear HB
           clear HO_4
           clear HO180
           have BK173 := n0_
           have HB := n1_
           have HO183 := n2_
           clear n0_ n1_ n2_
           clear ho hb hg hat
           refine hK.out _ _ ⟨(blk_cell BK173.out 0).trans rfl, (blk_cell BK173.out 1).trans rfl, (blk_cell BK173.out 2).trans rfl, (blk_cell BK173.out 3).trans rfl, (blk_cell BK173.out 4).trans rfl⟩ (fun hHeld => ?_)
           clear hK K
           refine norm_ (a' := ?_) ?_ ?_
           rotate_left
           ·show Act.put _ (some 28) _ = _
            simp only [Act.put, List.setIfInBounds_toArray, List.set_cons_zero, List.set_cons_succ, i64_w, i32_w]
            rfl
           refine pure_ (i := 11) (N := some 4) (v := ?_) (a' := ?_) #[true, true, true, true, true, true, true, true, true, true, true, true] rfl rfl (any_of HT_.out (by kernel_rfl)) (fun _ _ _ h => h) (Or.inl ⟨by rfl, ?_⟩) ?_ ?_
           rotate_left
           ·intro w'
            go_simp
            with_reducible rfl
           rotate_left
           ·simp only [Act.put, List.setIfInBounds_toArray, List.set_cons_zero, List.set_cons_succ, i64_w, i32_w]
            rfl
           refine done_ (done_of HT_.out (by kernel_rfl)) ?_
           try go_wp2
           go_roundg k1
           case measure => have := HK1.out; omega
           case rel => exact ⟨(y181), (wrap64 (x10_1 + 1)), (wrap64 (x10_1 + 1)), (by first | rfl | (simp; done) | (simp [*]; done)), (by first | rfl | (simp; done) | (simp [*]; done)), H', ⟨by have := HK1.out; omega⟩, ⟨by (with_reducible repeat (first | apply Kd.S_alloc | apply Kd.S_drewN | apply Kd.S_drew)); exact Kd.S_mono HO183.out (fun _ hk => trivial)⟩, ⟨by repeat (first | (with_reducible first | exact HB.out | apply below_alloc | apply pw_below_drewN | apply below_drew1 | refine below_set ?_ GE173.out) | exact HB.out)⟩⟩
          ·rw [if_neg c10] at H
           exact absurd H (by simp)
         ·rw [if_neg c8] at H
          exact absurd H (by simp)
        ·rw [if_neg c7] at H
         exact absurd H (by simp)
       ·rw [if_neg c6] at H
        exact absurd H (by simp)
      ·rw [if_neg c5] at H
       have c5b0 : (((rd_T24 l0 x10_1).f0) == 8) = false := beq_eq_false_iff_ne.mpr c5
       have c5b1 : (((rd_T24 l0 x10_1).f0) != 8) = true := bne_iff_ne.mpr c5
       have H' := Aside0.mk H
       clear H
       have p172 : 0 ≤ (x10_1 : Int) := of_decide_eq_true (by first | (with_reducible assumption) | assumption)
       have q172 : x10_1 < (l0.length : Int) := of_decide_eq_true (by first | (with_reducible assumption) | assumption)
       obtain ⟨ad172, e172, hx172_0, hx172_1, hx172_2, hx172_3, hx172_4⟩ := at_T24 HR0.out x10_1 p172 q172
       cases e172
       replace hx172_0 := (HB.out.cell (World.block_lt_of_cell? w _ hx172_0)).trans hx172_0
       replace hx172_1 := (HB.out.cell (World.block_lt_of_cell? w _ hx172_1)).trans hx172_1
       replace hx172_2 := (HB.out.cell (World.block_lt_of_cell? w _ hx172_2)).trans hx172_2
       replace hx172_3 := (HB.out.cell (World.block_lt_of_cell? w _ hx172_3)).trans hx172_3
       replace hx172_4 := (HB.out.cell (World.block_lt_of_cell? w _ hx172_4)).trans hx172_4
       replace p172 := eq_true p172
       replace q172 := eq_true q172
       go_wp2_with (first | ((with_reducible refine gate_dst (N := 7) rfl ?_); refine box_event ?hg (N := 7) ?hd (cs := #[.int .i64 0, .int .i64 0, .int .i64 0, .int .u64 0, .string (⟨#[]⟩ : ByteArray)]) (t := 24) ?hr ?_; (case hd => rfl); (case hg => rfl); (case hr => first | (go_simp; done) | (go_simp; rfl)); intro gb173 hg w19 hbox hb; have n0_ := Aside0.mk (Kd.S_below (Kd.S_elderB (by (with_reducible repeat (first | apply Kd.S_alloc | apply Kd.S_drewN | apply Kd.S_drew)); exact HO_4.out) gb173 (Nat.le_of_eq hg.symm)) hb); have n1_ := Aside0.mk (below_step (by repeat (first | (with_reducible first | exact HB.out | apply below_alloc | apply pw_below_drewN | apply below_drew1) | exact HB.out)) hb); have n2_ := Aside0.mk (hbox); have n3_ := Aside0.mk ((by rw [hg]; exact (below_size (by repeat (first | (with_reducible first | exact HB.out | apply below_alloc | apply pw_below_drewN | apply below_drew1) | exact HB.out))) : w.heap.size ≤ gb173)); have n4_ := Aside0.mk ((by rw [hg]; exact (below_size (by repeat (first | (with_reducible first | exact HB.out | apply below_alloc | apply pw_below_drewN | apply below_drew1) | exact HB.out))) : w.heap.size ≤ gb173)); clear HO_4; clear HB; have HO_4 := n0_; have HB := n1_; have BK173 := n2_; have GW173 := n3_; have GE173 := n4_; clear n0_ n1_ n2_ n3_ n4_; clear hb hbox hg; have hcz20_0 : w19.cell? ⟨gb173, 0, none⟩ = some (.int .i64 0) := (blk_cell BK173.out 0).trans rfl; have hcz20_1 : w19.cell? ⟨gb173, 1, none⟩ = some (.int .i64 0) := (blk_cell BK173.out 1).trans rfl; have hcz20_2 : w19.cell? ⟨gb173, 2, none⟩ = some (.int .i64 0) := (blk_cell BK173.out 2).trans rfl; have hcz20_3 : w19.cell? ⟨gb173, 3, none⟩ = some (.int .u64 0) := (blk_cell BK173.out 3).trans rfl; have hcz20_4 : w19.cell? ⟨gb173, 4, none⟩ = some (.string (⟨#[]⟩ : ByteArray)) := (blk_cell BK173.out 4).trans rfl; have hfz20_0 := blk_frozen BK173.out 0; have hfz20_1 := blk_frozen BK173.out 1; have hfz20_2 := blk_frozen BK173.out 2; have hfz20_3 := blk_frozen BK173.out 3; have hfz20_4 := blk_frozen BK173.out 4))
       go_roundg k1
       case measure => have := HK1.out; omega
       case rel => exact ⟨(x4_1), (x5_1), (wrap64 (x10_1 + 1)), (by first | rfl | (simp; done) | (simp [*]; done)), (by first | rfl | (simp; done) | (simp [*]; done)), H', ⟨by have := HK1.out; omega⟩, ⟨by (with_reducible repeat (first | apply Kd.S_alloc | apply Kd.S_drewN | apply Kd.S_drew)); exact Kd.S_mono (Kd.S_far (p := ⟨gb173, 4, none⟩) (Kd.S_far (p := ⟨gb173, 3, none⟩) (Kd.S_far (p := ⟨gb173, 2, none⟩) (Kd.S_far (p := ⟨gb173, 1, none⟩) (Kd.S_far (p := ⟨gb173, 0, none⟩) (Kd.S_mono HO_4.out (fun k_ hk => (⟨hk, hk.2⟩ : _ ∧ k_ ≠ gb173))) (fun _ hk => hk.2) (.int .i64 ((rd_T24 l0 x10_1).f0))) (fun _ hk => hk.2) (.int .i64 ((rd_T24 l0 x10_1).f1))) (fun _ hk => hk.2) (.int .i64 ((rd_T24 l0 x10_1).f2))) (fun _ hk => hk.2) (.int .u64 ((rd_T24 l0 x10_1).f3))) (fun _ hk => hk.2) (.string ((rd_T24 l0 x10_1).f4))) (fun _ hk => trivial)⟩, ⟨by repeat (first | (with_reducible first | exact HB.out | apply below_alloc | apply pw_below_drewN | apply below_drew1 | refine below_set ?_ GE173.out) | exact HB.out)⟩⟩
     ·rw [if_neg c4] at H
      exact absurd H (by simp)
    ·rw [if_neg c3] at H
     exact absurd H (by simp)
   ·rw [if_neg c2] at H
    have c2b0 : decide (x10_1 < (l0.length : Int)) = false := decide_eq_false c2
    clear c2
    simp only [Option.some.injEq, Prod.mk.injEq] at H
    obtain ⟨rfl, rfl⟩ := H
    go_wp2
    go_ret2
    exact ⟨_, by first | rfl | (simp [errW_none, errW_some] <;> rfl) | (simp [*, errW_none, errW_some] <;> rfl), by (with_reducible repeat (first | apply Kd.S_alloc | apply Kd.S_drewN | apply Kd.S_drew)); exact HO_4.out, by repeat (first | (with_reducible first | exact HB.out | apply below_alloc | apply pw_below_drewN | apply below_drew1) | exact HB.out)⟩

end Go.Proofs.YtboommbclbjlnaaDoor.Fn
end
section
-- Written by printx.py, a program of this session over the kit's print: each Go function as a plain Lean function, and that the Go code computes it.

namespace Go.Proofs.YtboommbclbjlnaaDoor.Fn
open Go.RowKit Go.Proofs.YtboommbclbjlnaaDoorW.PrintWords Go.Proofs.YtboommbclbjlnaaDoorW.PrintLast Go.Proofs.YtboommbclbjlnaaDoorW.PrintMore Go.Proofs.YtboommbclbjlnaaDoor.Lf
attribute [local go_sem] max2_int min2_int max_two min_two max_three min_three max_four min_four   -- for this text's walks alone
set_option linter.unusedVariables false
set_option linter.unusedSimpArgs false

/-! ### rootcellarref12_Groups: function 25 -/
def rootcellarref12_Groups.l0 : Nat → List (S26) → List (S46) → List (S26) → Int → Int → Option ((List (S46)) × Int)
 | 0, _, _, _, _, _ => none
 | k + 1, x0, x4, x5, x6, x7 => if x7 < (x0.length : Int) then (if 0 ≤ x7 then (if ((rd_T26 x0 x7).f0) = 8 then (if x4.length < 4398046511104 then (rootcellarref12_Groups.l0 k x0 (x4 ++ [(⟨(rd_T26 x0 x7).f3, x5⟩ : S46)]) ([] : List (S26)) (wrap64 (x7 + 1)) (wrap64 (x7 + 1))) else (none)) else (if x5.length < 2932031007402 then (rootcellarref12_Groups.l0 k x0 x4 (x5 ++ [(⟨(rd_T26 x0 x7).f0, (rd_T26 x0 x7).f1, (rd_T26 x0 x7).f2, (rd_T26 x0 x7).f3, (rd_T26 x0 x7).f4⟩ : S26)]) x6 (wrap64 (x7 + 1))) else (none))) else (none)) else (some (x4, x6))
def rootcellarref12_Groups.f (k : Nat) (l0 : List (S26)) : Option ((List (S46)) × Int) := rootcellarref12_Groups.l0 k l0 ([] : List (S46)) ([] : List (S26)) 0 0
theorem rootcellarref12_Groups.mono_l : ∀ k, (∀ y0 y1 y2 y3 y4, LeO (rootcellarref12_Groups.l0 k y0 y1 y2 y3 y4) (rootcellarref12_Groups.l0 (k + 1) y0 y1 y2 y3 y4))
 | 0 => fun _ _ _ _ _ r h => by simp [rootcellarref12_Groups.l0] at h
 | k + 1 => by
  have ih0 := rootcellarref12_Groups.mono_l k
  ·intro y0 y1 y2 y3 y4
   unfold rootcellarref12_Groups.l0
   repeat' first
   | (with_reducible exact ih0 _ _ _ _ _)
   | (with_reducible exact LeO.refl _)
   | (with_reducible exact LeO.none _)
   | (with_reducible refine LeO.ite ?_ ?_)
   | (with_reducible refine LeO.bind ?_ (fun _ => ?_))
   | exact ih0 _ _ _ _ _
   | exact LeO.none _
   | refine LeO.ite ?_ ?_
   | refine LeO.bind ?_ (fun _ => ?_)
theorem rootcellarref12_Groups.mono : ∀ a0 k, LeO (rootcellarref12_Groups.f k a0) (rootcellarref12_Groups.f (k + 1) a0) := by
 intro a0 k
 have ih0 := rootcellarref12_Groups.mono_l k
 unfold rootcellarref12_Groups.f
 repeat' first
   | (with_reducible exact ih0 _ _ _ _ _)
   | (with_reducible exact LeO.refl _)
   | (with_reducible exact LeO.none _)
   | (with_reducible refine LeO.ite ?_ ?_)
   | (with_reducible refine LeO.bind ?_ (fun _ => ?_))
   | exact ih0 _ _ _ _ _
   | exact LeO.none _
   | refine LeO.ite ?_ ?_
   | refine LeO.bind ?_ (fun _ => ?_)
set_option maxHeartbeats 8000000 in
set_option maxRecDepth 100000 in
theorem rootcellarref12_Groups.calls (k : Nat) (A0 : Option Addr) (c0 : Nat) (l0 : List (S26)) (r1 : List (S46)) (r2 : Int) (w : World) (hr0 : Kd.C k26 w A0 l0.length l0) (hc0 : l0.length ≤ c0) (h : rootcellarref12_Groups.f k l0 = some (r1, r2)) :
  Calls Tryd.prog 25 #[.slice A0 l0.length c0] w fun e w' => ∃ v0_ : Value, e = .returned (.tuple #[v0_, .int .i64 r2]) ∧ Kd.S k46 46 w' w.heap.size (fun _ => True) v0_ r1 ∧ Below w.heap.size w w' := by
 have hu26 := Tryd.underlying26
 have hu46 := Tryd.underlying46
 have HR0 := Aside0.mk hr0
 have HC0 := Aside0.mk hc0
 clear hr0 hc0
 have HB := Aside0.mk (Below.refl w.heap.size w)
 have H : (rootcellarref12_Groups.l0 k l0 ([] : List (S46)) ([] : List (S26)) 0 0) = some (r1, r2) := h
 clear h
 have H' := Aside0.mk H
 clear H
 go_enter Tryd.func25, Tryd.ntmps25
 go_wp2
 go_loopg [4, 5, 6, 7] k (fun kq v4 v5 v6 v7 w' => ∃ (x4_1 : List (S46)) (x5_1 : List (S26)) (x6_1 : Int) (x7_1 : Int), v6 = .int .i64 x6_1 ∧ v7 = .int .i64 x7_1 ∧ Aside0 (rootcellarref12_Groups.l0 kq l0 x4_1 x5_1 x6_1 x7_1 = some (r1, r2)) ∧ Aside0 (kq ≤ k) ∧ Aside0 (Kd.S k46 46 w' w.heap.size (fun k_ => some k_ ≠ (v5 : Value).ownBlock) v4 x4_1) ∧ Aside0 (Kd.R k26 26 w' w.heap.size (fun _ => True) v5 x5_1) ∧ Aside0 (Below w.heap.size w w'))
 case atStart => exact ⟨(([] : List (S46))), (([] : List (S26))), (0), (0), (by first | rfl | (simp; done) | (simp [*]; done)), (by first | rfl | (simp; done) | (simp [*]; done)), H', ⟨Nat.le_refl _⟩, ⟨by first | exact Kd.S_nil _ _ _ _ _ | exact Kd.N_nil _ _ _ _ _ | exact Kd.V_nil _ _ _ _ _ | exact Kd.Q_nil _ _ _ _ _ | exact Kd.R_nil _ _ _ _ _⟩, ⟨by first | exact Kd.R_nil _ _ _ _ _ | exact Kd.N_nil _ _ _ _ _ | exact Kd.V_nil _ _ _ _ _ | exact Kd.Q_nil _ _ _ _ _ | exact Kd.S_nil _ _ _ _ _⟩, ⟨by repeat (first | (with_reducible first | exact HB.out | apply below_alloc | apply pw_below_drewN | apply below_drew1) | exact HB.out)⟩⟩
 case round =>
  clear H'
  obtain ⟨x4_1, x5_1, x6_1, x7_1, rfl, rfl, HA, HK1, HO_4, HO_5, HB⟩ := hrel
  cases gk with
  | zero => exact absurd HA.out (by simp [rootcellarref12_Groups.l0])
  | succ k1 =>
   have H := HA.out
   clear HA
   simp only [rootcellarref12_Groups.l0] at H
   by_cases c2 : x7_1 < (l0.length : Int)
   ·rw [if_pos c2] at H
    have c2b0 : decide (x7_1 < (l0.length : Int)) = true := decide_eq_true c2
    clear c2
    by_cases c3 : 0 ≤ x7_1
    ·rw [if_pos c3] at H
     have c3b0 : decide (0 ≤ x7_1) = true := decide_eq_true c3
     clear c3
     by_cases c4 : ((rd_T26 l0 x7_1).f0) = 8
     ·rw [if_pos c4] at H
      have c4b0 : (((rd_T26 l0 x7_1).f0) == 8) = true := beq_iff_eq.mpr c4
      have c4b1 : (((rd_T26 l0 x7_1).f0) != 8) = false := bne_eq_false_iff_eq.mpr c4
      clear c4
      by_cases c5 : x4_1.length < 4398046511104
      ·rw [if_pos c5] at H
       have LMc5 := Aside0.mk c5
       clear c5
       obtain ⟨y186, hy186⟩ : ∃ y_ : List (S46), y_ = (x4_1 ++ [(⟨(rd_T26 l0 x7_1).f3, x5_1⟩ : S46)]) := ⟨_, rfl⟩
       replace H : (rootcellarref12_Groups.l0 k1 l0 y186 ([] : List (S26)) (wrap64 (x7_1 + 1)) (wrap64 (x7_1 + 1))) = some (r1, r2) := by first | (rw [hy186]; with_reducible exact H) | (have H2_ := (Option.bind_some _ _).symm.trans H; rw [hy186]; with_reducible exact H2_) | (have H2_ := (Option.bind_some _ _).symm.trans H; with_reducible exact H2_) | with_reducible exact H | (rw [hy186]; exact H) | exact H
       have Ny186 := Aside0.mk hy186
       clear hy186
       have H' := Aside0.mk H
       clear H
       have p184 : 0 ≤ (x7_1 : Int) := of_decide_eq_true (by first | (with_reducible assumption) | assumption)
       have q184 : x7_1 < (l0.length : Int) := of_decide_eq_true (by first | (with_reducible assumption) | assumption)
       obtain ⟨ad184, e184, hx184_0, hx184_1, hx184_2, hx184_3, hx184_4⟩ := at_T26 HR0.out x7_1 p184 q184
       cases e184
       replace hx184_0 := (HB.out.cell (World.block_lt_of_cell? w _ hx184_0)).trans hx184_0
       replace hx184_1 := (HB.out.cell (World.block_lt_of_cell? w _ hx184_1)).trans hx184_1
       replace hx184_2 := (HB.out.cell (World.block_lt_of_cell? w _ hx184_2)).trans hx184_2
       replace hx184_3 := (HB.out.cell (World.block_lt_of_cell? w _ hx184_3)).trans hx184_3
       replace hx184_4 := (HB.out.cell (World.block_lt_of_cell? w _ hx184_4)).trans hx184_4
       replace p184 := eq_true p184
       replace q184 := eq_true q184
       have p185 : 0 ≤ (x7_1 : Int) := of_decide_eq_true (by first | (with_reducible assumption) | assumption)
       have q185 : x7_1 < (l0.length : Int) := of_decide_eq_true (by first | (with_reducible assumption) | assumption)
       obtain ⟨ad185, e185, hx185_0, hx185_1, hx185_2, hx185_3, hx185_4⟩ := at_T26 HR0.out x7_1 p185 q185
       obtain rfl : ad184 = ad185 := (by injection e185)
       replace hx185_0 := (HB.out.cell (World.block_lt_of_cell? w _ hx185_0)).trans hx185_0
       replace hx185_1 := (HB.out.cell (World.block_lt_of_cell? w _ hx185_1)).trans hx185_1
       replace hx185_2 := (HB.out.cell (World.block_lt_of_cell? w _ hx185_2)).trans hx185_2
       replace hx185_3 := (HB.out.cell (World.block_lt_of_cell? w _ hx185_3)).trans hx185_3
       replace hx185_4 := (HB.out.cell (World.block_lt_of_cell? w _ hx185_4)).trans hx185_4
       replace p185 := eq_true p185
       replace q185 := eq_true q185
       obtain ⟨Ao6, co6, eo6⟩ := Kd.R_slice HO_5.out
       subst eo6
       go_wp2_with (first | ((with_reducible refine gate_builtin (b := .append) (xs := #[.tmp 27, .tmp 35]) rfl ?_); at_builtin; refine Kd.S_append k46 (w0 := w) w.heap.size rfl (.tmp 27) (.tmp 35) 40 46 (.agg #[(.int .u64 0), (.slice none 0 0)]) 32 rfl Tryd.underlying40 info46 rfl (by decide) (by omega) u4 x4_1 (⟨(rd_T26 l0 x7_1).f3, x5_1⟩ : S46) [.int .u64 ((rd_T26 l0 x7_1).f3), .slice Ao6 x5_1.length co6] (fun _ => True) (fun k_ => some k_ = (.slice Ao6 x5_1.length co6 : Value).ownBlock) rfl rfl ?aP (fun k_ hk_ => ((Kd.R_mono (ok' := fun k_ => ((fun _ => True)) k_ ∧ some k_ ≠ (u4 : Value).ownBlock) (Kd.R_apart' (HO_5.out) (Kd.S_typed HO_4.out) (by decide)) (fun k_ hk => ⟨trivial, hk.2⟩))).1 k_ hk_.symm) ?aF ?aO ?aB ?aS ?aL ?_; (case aP => exact k46_mkM _ _ _ (⟨(rd_T26 l0 x7_1).f3, x5_1⟩ : S46) (Kd.R_mono (Kd.R_tight rfl (Kd.R_mono (ok' := fun k_ => ((fun _ => True)) k_ ∧ some k_ ≠ (u4 : Value).ownBlock) (Kd.R_apart' (HO_5.out) (Kd.S_typed HO_4.out) (by decide)) (fun k_ hk => ⟨trivial, hk.2⟩))) (fun _ h_ => h_))); (case aB => exact (by repeat (first | (with_reducible first | exact HB.out | apply below_alloc | apply pw_below_drewN | apply below_drew1) | exact HB.out))); (case aF => exact (fun _ _ => trivial)); (case aO => exact (by (with_reducible repeat (first | apply Kd.S_alloc | apply Kd.S_drewN | apply Kd.S_drew)); exact Kd.S_mono HO_4.out (fun k_ hk => ⟨trivial, fun e_ => hk e_⟩))); (case aS => exact (below_size (by repeat (first | (with_reducible first | exact HB.out | apply below_alloc | apply pw_below_drewN | apply below_drew1) | exact HB.out)))); (case aL => have := LMc5.out; omega); intro v187 w7 ho hb hg hat; rw [← Ny186.out] at ho; have n0_ := Aside0.mk (hb); have n1_ := Aside0.mk (ho); clear HB; clear HO_4; clear HO_5; have HB := n0_; have HO188 := n1_; clear n0_ n1_; clear ho hb hg hat))
       go_roundg k1
       case measure => have := HK1.out; omega
       case rel => exact ⟨(y186), (([] : List (S26))), (wrap64 (x7_1 + 1)), (wrap64 (x7_1 + 1)), (by first | rfl | (simp; done) | (simp [*]; done)), (by first | rfl | (simp; done) | (simp [*]; done)), H', ⟨by have := HK1.out; omega⟩, ⟨by (with_reducible repeat (first | apply Kd.S_alloc | apply Kd.S_drewN | apply Kd.S_drew)); exact Kd.S_mono HO188.out (fun _ hk => (by simp [Value.ownBlock]))⟩, ⟨by first | exact Kd.R_nil _ _ _ _ _ | exact Kd.N_nil _ _ _ _ _ | exact Kd.V_nil _ _ _ _ _ | exact Kd.Q_nil _ _ _ _ _ | exact Kd.S_nil _ _ _ _ _⟩, ⟨by repeat (first | (with_reducible first | exact HB.out | apply below_alloc | apply pw_below_drewN | apply below_drew1) | exact HB.out)⟩⟩
      ·rw [if_neg c5] at H
       exact absurd H (by simp)
     ·rw [if_neg c4] at H
      have c4b0 : (((rd_T26 l0 x7_1).f0) == 8) = false := beq_eq_false_iff_ne.mpr c4
      have c4b1 : (((rd_T26 l0 x7_1).f0) != 8) = true := bne_iff_ne.mpr c4
      by_cases c8 : x5_1.length < 2932031007402
      ·rw [if_pos c8] at H
       have LMc8 := Aside0.mk c8
       clear c8
       obtain ⟨y190, hy190⟩ : ∃ y_ : List (S26), y_ = (x5_1 ++ [(⟨(rd_T26 l0 x7_1).f0, (rd_T26 l0 x7_1).f1, (rd_T26 l0 x7_1).f2, (rd_T26 l0 x7_1).f3, (rd_T26 l0 x7_1).f4⟩ : S26)]) := ⟨_, rfl⟩
       replace H : (rootcellarref12_Groups.l0 k1 l0 x4_1 y190 x6_1 (wrap64 (x7_1 + 1))) = some (r1, r2) := by first | (rw [hy190]; with_reducible exact H) | (have H2_ := (Option.bind_some _ _).symm.trans H; rw [hy190]; with_reducible exact H2_) | (have H2_ := (Option.bind_some _ _).symm.trans H; with_reducible exact H2_) | with_reducible exact H | (rw [hy190]; exact H) | exact H
       have Ny190 := Aside0.mk hy190
       clear hy190
       have H' := Aside0.mk H
       clear H
       have p184 : 0 ≤ (x7_1 : Int) := of_decide_eq_true (by first | (with_reducible assumption) | assumption)
       have q184 : x7_1 < (l0.length : Int) := of_decide_eq_true (by first | (with_reducible assumption) | assumption)
       obtain ⟨ad184, e184, hx184_0, hx184_1, hx184_2, hx184_3, hx184_4⟩ := at_T26 HR0.out x7_1 p184 q184
       cases e184
       replace hx184_0 := (HB.out.cell (World.block_lt_of_cell? w _ hx184_0)).trans hx184_0
       replace hx184_1 := (HB.out.cell (World.block_lt_of_cell? w _ hx184_1)).trans hx184_1
       replace hx184_2 := (HB.out.cell (World.block_lt_of_cell? w _ hx184_2)).trans hx184_2
       replace hx184_3 := (HB.out.cell (World.block_lt_of_cell? w _ hx184_3)).trans hx184_3
       replace hx184_4 := (HB.out.cell (World.block_lt_of_cell? w _ hx184_4)).trans hx184_4
       replace p184 := eq_true p184
       replace q184 := eq_true q184
       have p189 : 0 ≤ (x7_1 : Int) := of_decide_eq_true (by first | (with_reducible assumption) | assumption)
       have q189 : x7_1 < (l0.length : Int) := of_decide_eq_true (by first | (with_reducible assumption) | assumption)
       obtain ⟨ad189, e189, hx189_0, hx189_1, hx189_2, hx189_3, hx189_4⟩ := at_T26 HR0.out x7_1 p189 q189
       obtain rfl : ad184 = ad189 := (by injection e189)
       replace hx189_0 := (HB.out.cell (World.block_lt_of_cell? w _ hx189_0)).trans hx189_0
       replace hx189_1 := (HB.out.cell (World.block_lt_of_cell? w _ hx189_1)).trans hx189_1
       replace hx189_2 := (HB.out.cell (World.block_lt_of_cell? w _ hx189_2)).trans hx189_2
       replace hx189_3 := (HB.out.cell (World.block_lt_of_cell? w _ hx189_3)).trans hx189_3
       replace hx189_4 := (HB.out.cell (World.block_lt_of_cell? w _ hx189_4)).trans hx189_4
       replace p189 := eq_true p189
       replace q189 := eq_true q189
       go_wp2_with (first | ((with_reducible refine gate_builtin (b := .append) (xs := #[.tmp 20, .tmp 25]) rfl ?_); at_builtin; refine Kd.R_append k26 (w0 := w) w.heap.size rfl (.tmp 20) (.tmp 25) 27 26 (.agg #[(.int .i64 0), (.int .i64 0), (.int .i64 0), (.int .u64 0), (.string ⟨#[]⟩)]) 48 rfl Tryd.underlying27 info26 rfl (by decide) (by omega) u5 x5_1 (⟨(rd_T26 l0 x7_1).f0, (rd_T26 l0 x7_1).f1, (rd_T26 l0 x7_1).f2, (rd_T26 l0 x7_1).f3, (rd_T26 l0 x7_1).f4⟩ : S26) [.int .i64 ((rd_T26 l0 x7_1).f0), .int .i64 ((rd_T26 l0 x7_1).f1), .int .i64 ((rd_T26 l0 x7_1).f2), .int .u64 ((rd_T26 l0 x7_1).f3), .string ((rd_T26 l0 x7_1).f4)] (fun _ => True) (fun _ => False) rfl rfl ?aP (fun _ hk => hk.elim) ?aF ?aO ?aB ?aS ?aL ?_; (case aP => exact k26_mkM _ _ _ (⟨(rd_T26 l0 x7_1).f0, (rd_T26 l0 x7_1).f1, (rd_T26 l0 x7_1).f2, (rd_T26 l0 x7_1).f3, (rd_T26 l0 x7_1).f4⟩ : S26)); (case aB => exact (by repeat (first | (with_reducible first | exact HB.out | apply below_alloc | apply pw_below_drewN | apply below_drew1) | exact HB.out))); (case aF => exact (fun _ _ => trivial)); (case aO => exact (by (with_reducible repeat (first | apply Kd.R_alloc | apply Kd.R_drewN | apply Kd.R_drew)); exact HO_5.out)); (case aS => exact (below_size (by repeat (first | (with_reducible first | exact HB.out | apply below_alloc | apply pw_below_drewN | apply below_drew1) | exact HB.out)))); (case aL => have := LMc8.out; omega); intro v191 w9 ho hb hg hat; rw [← Ny190.out] at ho; have n0_ := Aside0.mk (Kd.S_after (ok := (fun _ => True)) (by (with_reducible repeat (first | apply Kd.S_alloc | apply Kd.S_drewN | apply Kd.S_drew)); exact Kd.S_mono HO_4.out (fun _ hk => ⟨trivial, hk⟩)) hg hat); have n1_ := Aside0.mk (hb); have n2_ := Aside0.mk (ho); clear HO_4; clear HB; clear HO_5; have HO_4 := n0_; have HB := n1_; have HO192 := n2_; clear n0_ n1_ n2_; clear ho hb hg hat))
       go_roundg k1
       case measure => have := HK1.out; omega
       case rel => exact ⟨(x4_1), (y190), (x6_1), (wrap64 (x7_1 + 1)), (by first | rfl | (simp; done) | (simp [*]; done)), (by first | rfl | (simp; done) | (simp [*]; done)), H', ⟨by have := HK1.out; omega⟩, ⟨by (with_reducible repeat (first | apply Kd.S_alloc | apply Kd.S_drewN | apply Kd.S_drew)); exact Kd.S_mono HO_4.out (fun _ hk => hk.2)⟩, ⟨by (with_reducible repeat (first | apply Kd.R_alloc | apply Kd.R_drewN | apply Kd.R_drew)); exact HO192.out⟩, ⟨by repeat (first | (with_reducible first | exact HB.out | apply below_alloc | apply pw_below_drewN | apply below_drew1) | exact HB.out)⟩⟩
      ·rw [if_neg c8] at H
       exact absurd H (by simp)
    ·rw [if_neg c3] at H
     exact absurd H (by simp)
   ·rw [if_neg c2] at H
    have c2b0 : decide (x7_1 < (l0.length : Int)) = false := decide_eq_false c2
    clear c2
    simp only [Option.some.injEq, Prod.mk.injEq] at H
    obtain ⟨rfl, rfl⟩ := H
    go_wp2
    go_ret2
    exact ⟨_, by first | rfl | (simp [errW_none, errW_some] <;> rfl) | (simp [*, errW_none, errW_some] <;> rfl), by (with_reducible repeat (first | apply Kd.S_alloc | apply Kd.S_drewN | apply Kd.S_drew)); exact Kd.S_mono HO_4.out (fun _ hk => trivial), by repeat (first | (with_reducible first | exact HB.out | apply below_alloc | apply pw_below_drewN | apply below_drew1) | exact HB.out)⟩

end Go.Proofs.YtboommbclbjlnaaDoor.Fn
end
section
-- Written by printx.py, a program of this session over the kit's print: each Go function as a plain Lean function, and that the Go code computes it.

namespace Go.Proofs.YtboommbclbjlnaaDoor.Fn
open Go.RowKit Go.Proofs.YtboommbclbjlnaaDoorW.PrintWords Go.Proofs.YtboommbclbjlnaaDoorW.PrintLast Go.Proofs.YtboommbclbjlnaaDoorW.PrintMore Go.Proofs.YtboommbclbjlnaaDoor.Lf
attribute [local go_sem] max2_int min2_int max_two min_two max_three min_three max_four min_four   -- for this text's walks alone
set_option linter.unusedVariables false
set_option linter.unusedSimpArgs false

/-! ### rootcellarlaw12_sameSteps: function 26 -/
def rootcellarlaw12_sameSteps.l0 : Nat → List (S24) → List (S26) → Int → Option (Bool)
 | 0, _, _, _ => none
 | k + 1, x0, x1, x5 => if x5 < (x0.length : Int) then (if 0 ≤ x5 then (if x5 < (x1.length : Int) then (if ((rd_T24 x0 x5).f0) = ((rd_T26 x1 x5).f0) then (if ((rd_T24 x0 x5).f1) = ((rd_T26 x1 x5).f1) then (if ((rd_T24 x0 x5).f2) = ((rd_T26 x1 x5).f2) then (if ((rd_T24 x0 x5).f3) = ((rd_T26 x1 x5).f3) then (if ((rd_T24 x0 x5).f4).toList = ((rd_T26 x1 x5).f4).toList then (rootcellarlaw12_sameSteps.l0 k x0 x1 (wrap64 (x5 + 1))) else (some false)) else (some false)) else (some false)) else (some false)) else (some false)) else (none)) else (none)) else (some true)
def rootcellarlaw12_sameSteps.f (k : Nat) (l0 : List (S24)) (l1 : List (S26)) : Option (Bool) := if (l0.length : Int) = (l1.length : Int) then (rootcellarlaw12_sameSteps.l0 k l0 l1 0) else (some false)
theorem rootcellarlaw12_sameSteps.mono_l : ∀ k, (∀ y0 y1 y2, LeO (rootcellarlaw12_sameSteps.l0 k y0 y1 y2) (rootcellarlaw12_sameSteps.l0 (k + 1) y0 y1 y2))
 | 0 => fun _ _ _ r h => by simp [rootcellarlaw12_sameSteps.l0] at h
 | k + 1 => by
  have ih0 := rootcellarlaw12_sameSteps.mono_l k
  ·intro y0 y1 y2
   unfold rootcellarlaw12_sameSteps.l0
   repeat' first
   | (with_reducible exact ih0 _ _ _)
   | (with_reducible exact LeO.refl _)
   | (with_reducible exact LeO.none _)
   | (with_reducible refine LeO.ite ?_ ?_)
   | (with_reducible refine LeO.bind ?_ (fun _ => ?_))
   | exact ih0 _ _ _
   | exact LeO.none _
   | refine LeO.ite ?_ ?_
   | refine LeO.bind ?_ (fun _ => ?_)
theorem rootcellarlaw12_sameSteps.mono : ∀ a0 a1 k, LeO (rootcellarlaw12_sameSteps.f k a0 a1) (rootcellarlaw12_sameSteps.f (k + 1) a0 a1) := by
 intro a0 a1 k
 have ih0 := rootcellarlaw12_sameSteps.mono_l k
 unfold rootcellarlaw12_sameSteps.f
 repeat' first
   | (with_reducible exact ih0 _ _ _)
   | (with_reducible exact LeO.refl _)
   | (with_reducible exact LeO.none _)
   | (with_reducible refine LeO.ite ?_ ?_)
   | (with_reducible refine LeO.bind ?_ (fun _ => ?_))
   | exact ih0 _ _ _
   | exact LeO.none _
   | refine LeO.ite ?_ ?_
   | refine LeO.bind ?_ (fun _ => ?_)
set_option maxHeartbeats 8000000 in
set_option maxRecDepth 100000 in
theorem rootcellarlaw12_sameSteps.calls (k : Nat) (A0 : Option Addr) (c0 : Nat) (l0 : List (S24)) (A1 : Option Addr) (c1 : Nat) (l1 : List (S26)) (r : Bool) (w : World) (hr0 : Kd.C k24 w A0 l0.length l0) (hc0 : l0.length ≤ c0) (hr1 : Kd.C k26 w A1 l1.length l1) (hc1 : l1.length ≤ c1) (h : rootcellarlaw12_sameSteps.f k l0 l1 = some r) :
  Calls Tryd.prog 26 #[.slice A0 l0.length c0, .slice A1 l1.length c1] w fun e w' => e = .returned (.bool r) ∧ Below w.heap.size w w' := by
 have hu24 := Tryd.underlying24
 have hu26 := Tryd.underlying26
 have HR0 := Aside0.mk hr0
 have HC0 := Aside0.mk hc0
 clear hr0 hc0
 have HR1 := Aside0.mk hr1
 have HC1 := Aside0.mk hc1
 clear hr1 hc1
 have HB := Aside0.mk (Below.refl w.heap.size w)
 have H : (if (l0.length : Int) = (l1.length : Int) then (rootcellarlaw12_sameSteps.l0 k l0 l1 0) else (some false)) = some r := h
 clear h
 by_cases c3 : (l0.length : Int) = (l1.length : Int)
 ·rw [if_pos c3] at H
  have c3b0 : ((l0.length : Int) == (l1.length : Int)) = true := beq_iff_eq.mpr c3
  have c3b1 : ((l0.length : Int) != (l1.length : Int)) = false := bne_eq_false_iff_eq.mpr c3
  have c3b2 : (l0.length == l1.length) = true := by first | simpa using c3 | (simp at c3 ⊢; omega)
  clear c3
  have H' := Aside0.mk H
  clear H
  go_enter Tryd.func26, Tryd.ntmps26
  go_wp2
  go_loopg [5] k (fun kq v5 w' => ∃ (x5_1 : Int), v5 = .int .i64 x5_1 ∧ Aside0 (rootcellarlaw12_sameSteps.l0 kq l0 l1 x5_1 = some r) ∧ Aside0 (kq ≤ k) ∧ Aside0 (Below w.heap.size w w'))
  case atStart => exact ⟨(0), (by first | rfl | (simp; done) | (simp [*]; done)), H', ⟨Nat.le_refl _⟩, ⟨by repeat (first | (with_reducible first | exact HB.out | apply below_alloc | apply pw_below_drewN | apply below_drew1) | exact HB.out)⟩⟩
  case round =>
   clear H'
   try clear c1
   try clear c2
   try clear p2
   try clear c3
   try clear c3b0
   try clear c3b1
   try clear c3b2
   obtain ⟨x5_1, rfl, HA, HK1, HB⟩ := hrel
   cases gk with
   | zero => exact absurd HA.out (by simp [rootcellarlaw12_sameSteps.l0])
   | succ k1 =>
    have H := HA.out
    clear HA
    simp only [rootcellarlaw12_sameSteps.l0] at H
    by_cases c4 : x5_1 < (l0.length : Int)
    ·rw [if_pos c4] at H
     have c4b0 : decide (x5_1 < (l0.length : Int)) = true := decide_eq_true c4
     clear c4
     by_cases c5 : 0 ≤ x5_1
     ·rw [if_pos c5] at H
      have c5b0 : decide (0 ≤ x5_1) = true := decide_eq_true c5
      clear c5
      by_cases c6 : x5_1 < (l1.length : Int)
      ·rw [if_pos c6] at H
       have c6b0 : decide (x5_1 < (l1.length : Int)) = true := decide_eq_true c6
       clear c6
       by_cases c7 : ((rd_T24 l0 x5_1).f0) = ((rd_T26 l1 x5_1).f0)
       ·rw [if_pos c7] at H
        have c7b0 : (((rd_T24 l0 x5_1).f0) == ((rd_T26 l1 x5_1).f0)) = true := beq_iff_eq.mpr c7
        have c7b1 : (((rd_T24 l0 x5_1).f0) != ((rd_T26 l1 x5_1).f0)) = false := bne_eq_false_iff_eq.mpr c7
        clear c7
        by_cases c8 : ((rd_T24 l0 x5_1).f1) = ((rd_T26 l1 x5_1).f1)
        ·rw [if_pos c8] at H
         have c8b0 : (((rd_T24 l0 x5_1).f1) == ((rd_T26 l1 x5_1).f1)) = true := beq_iff_eq.mpr c8
         have c8b1 : (((rd_T24 l0 x5_1).f1) != ((rd_T26 l1 x5_1).f1)) = false := bne_eq_false_iff_eq.mpr c8
         clear c8
         by_cases c9 : ((rd_T24 l0 x5_1).f2) = ((rd_T26 l1 x5_1).f2)
         ·rw [if_pos c9] at H
          have c9b0 : (((rd_T24 l0 x5_1).f2) == ((rd_T26 l1 x5_1).f2)) = true := beq_iff_eq.mpr c9
          have c9b1 : (((rd_T24 l0 x5_1).f2) != ((rd_T26 l1 x5_1).f2)) = false := bne_eq_false_iff_eq.mpr c9
          clear c9
          by_cases c10 : ((rd_T24 l0 x5_1).f3) = ((rd_T26 l1 x5_1).f3)
          ·rw [if_pos c10] at H
           have c10b0 : (((rd_T24 l0 x5_1).f3) == ((rd_T26 l1 x5_1).f3)) = true := beq_iff_eq.mpr c10
           have c10b1 : (((rd_T24 l0 x5_1).f3) != ((rd_T26 l1 x5_1).f3)) = false := bne_eq_false_iff_eq.mpr c10
           clear c10
           by_cases c11 : ((rd_T24 l0 x5_1).f4).toList = ((rd_T26 l1 x5_1).f4).toList
           ·rw [if_pos c11] at H
            have c11b0 : (((rd_T24 l0 x5_1).f4).toList == ((rd_T26 l1 x5_1).f4).toList) = true := beq_iff_eq.mpr c11
            have c11b1 : (((rd_T24 l0 x5_1).f4).toList != ((rd_T26 l1 x5_1).f4).toList) = false := bne_eq_false_iff_eq.mpr c11
            clear c11
            have H' := Aside0.mk H
            clear H
            have p193 : 0 ≤ (x5_1 : Int) := of_decide_eq_true (by first | (with_reducible assumption) | assumption)
            have q193 : x5_1 < (l0.length : Int) := of_decide_eq_true (by first | (with_reducible assumption) | assumption)
            obtain ⟨ad193, e193, hx193_0, hx193_1, hx193_2, hx193_3, hx193_4⟩ := at_T24 HR0.out x5_1 p193 q193
            cases e193
            replace hx193_0 := (HB.out.cell (World.block_lt_of_cell? w _ hx193_0)).trans hx193_0
            replace hx193_1 := (HB.out.cell (World.block_lt_of_cell? w _ hx193_1)).trans hx193_1
            replace hx193_2 := (HB.out.cell (World.block_lt_of_cell? w _ hx193_2)).trans hx193_2
            replace hx193_3 := (HB.out.cell (World.block_lt_of_cell? w _ hx193_3)).trans hx193_3
            replace hx193_4 := (HB.out.cell (World.block_lt_of_cell? w _ hx193_4)).trans hx193_4
            replace p193 := eq_true p193
            replace q193 := eq_true q193
            go_wp2_with (first | ((with_reducible refine gate_dst (N := 6) rfl ?_); refine box_event ?hg (N := 6) ?hd (cs := #[.int .i64 0, .int .i64 0, .int .i64 0, .int .u64 0, .string (⟨#[]⟩ : ByteArray)]) (t := 24) ?hr ?_; (case hd => rfl); (case hg => rfl); (case hr => first | (go_simp; done) | (go_simp; rfl)); intro gb194 hg w12 hbox hb; have n0_ := Aside0.mk (below_step (by repeat (first | (with_reducible first | exact HB.out | apply below_alloc | apply pw_below_drewN | apply below_drew1) | exact HB.out)) hb); have n1_ := Aside0.mk (hbox); have n2_ := Aside0.mk ((by rw [hg]; exact (below_size (by repeat (first | (with_reducible first | exact HB.out | apply below_alloc | apply pw_below_drewN | apply below_drew1) | exact HB.out))) : w.heap.size ≤ gb194)); have n3_ := Aside0.mk ((by rw [hg]; exact (below_size (by repeat (first | (with_reducible first | exact HB.out | apply below_alloc | apply pw_below_drewN | apply below_drew1) | exact HB.out))) : w.heap.size ≤ gb194)); clear HB; have HB := n0_; have BK194 := n1_; have GW194 := n2_; have GE194 := n3_; clear n0_ n1_ n2_ n3_; clear hb hbox hg; have hcz13_0 : w12.cell? ⟨gb194, 0, none⟩ = some (.int .i64 0) := (blk_cell BK194.out 0).trans rfl; have hcz13_1 : w12.cell? ⟨gb194, 1, none⟩ = some (.int .i64 0) := (blk_cell BK194.out 1).trans rfl; have hcz13_2 : w12.cell? ⟨gb194, 2, none⟩ = some (.int .i64 0) := (blk_cell BK194.out 2).trans rfl; have hcz13_3 : w12.cell? ⟨gb194, 3, none⟩ = some (.int .u64 0) := (blk_cell BK194.out 3).trans rfl; have hcz13_4 : w12.cell? ⟨gb194, 4, none⟩ = some (.string (⟨#[]⟩ : ByteArray)) := (blk_cell BK194.out 4).trans rfl; have hfz13_0 := blk_frozen BK194.out 0; have hfz13_1 := blk_frozen BK194.out 1; have hfz13_2 := blk_frozen BK194.out 2; have hfz13_3 := blk_frozen BK194.out 3; have hfz13_4 := blk_frozen BK194.out 4; have p195 : 0 ≤ (x5_1 : Int) := of_decide_eq_true (by first | (with_reducible assumption) | assumption); have q195 : x5_1 < (l1.length : Int) := of_decide_eq_true (by first | (with_reducible assumption) | assumption); obtain ⟨ad195, e195, hx195_0, hx195_1, hx195_2, hx195_3, hx195_4⟩ := at_T26 HR1.out x5_1 p195 q195; cases e195; have hn195_0 : ad195.block ≠ gb194 := Nat.ne_of_lt (Nat.lt_of_lt_of_le (by have := World.block_lt_of_cell? _ _ hx195_0; first | rwa [add_block] at this | exact this) GW194.out); have hn195_1 : ad195.block ≠ gb194 := Nat.ne_of_lt (Nat.lt_of_lt_of_le (by have := World.block_lt_of_cell? _ _ hx195_0; first | rwa [add_block] at this | exact this) GW194.out); have hn195_2 : ad195.block ≠ gb194 := Nat.ne_of_lt (Nat.lt_of_lt_of_le (by have := World.block_lt_of_cell? _ _ hx195_0; first | rwa [add_block] at this | exact this) GW194.out); have hn195_3 : ad195.block ≠ gb194 := Nat.ne_of_lt (Nat.lt_of_lt_of_le (by have := World.block_lt_of_cell? _ _ hx195_0; first | rwa [add_block] at this | exact this) GW194.out); have hn195_4 : ad195.block ≠ gb194 := Nat.ne_of_lt (Nat.lt_of_lt_of_le (by have := World.block_lt_of_cell? _ _ hx195_0; first | rwa [add_block] at this | exact this) GW194.out); replace hx195_0 := (HB.out.cell (World.block_lt_of_cell? w _ hx195_0)).trans hx195_0; replace hx195_1 := (HB.out.cell (World.block_lt_of_cell? w _ hx195_1)).trans hx195_1; replace hx195_2 := (HB.out.cell (World.block_lt_of_cell? w _ hx195_2)).trans hx195_2; replace hx195_3 := (HB.out.cell (World.block_lt_of_cell? w _ hx195_3)).trans hx195_3; replace hx195_4 := (HB.out.cell (World.block_lt_of_cell? w _ hx195_4)).trans hx195_4; replace hx195_0 := (cell_far (p := ⟨gb194, 0, none⟩) (by first | (rw [add_block]; exact hn195_0) | (show (Addr.add _ _).block ≠ _; rw [add_block]; exact hn195_0) | exact hn195_0) (.int .i64 ((rd_T24 l0 x5_1).f0))).trans hx195_0; replace hx195_1 := (cell_far (p := ⟨gb194, 0, none⟩) (by first | (rw [add_block]; exact hn195_0) | (show (Addr.add _ _).block ≠ _; rw [add_block]; exact hn195_0) | exact hn195_0) (.int .i64 ((rd_T24 l0 x5_1).f0))).trans hx195_1; replace hx195_2 := (cell_far (p := ⟨gb194, 0, none⟩) (by first | (rw [add_block]; exact hn195_0) | (show (Addr.add _ _).block ≠ _; rw [add_block]; exact hn195_0) | exact hn195_0) (.int .i64 ((rd_T24 l0 x5_1).f0))).trans hx195_2; replace hx195_3 := (cell_far (p := ⟨gb194, 0, none⟩) (by first | (rw [add_block]; exact hn195_0) | (show (Addr.add _ _).block ≠ _; rw [add_block]; exact hn195_0) | exact hn195_0) (.int .i64 ((rd_T24 l0 x5_1).f0))).trans hx195_3; replace hx195_4 := (cell_far (p := ⟨gb194, 0, none⟩) (by first | (rw [add_block]; exact hn195_0) | (show (Addr.add _ _).block ≠ _; rw [add_block]; exact hn195_0) | exact hn195_0) (.int .i64 ((rd_T24 l0 x5_1).f0))).trans hx195_4; replace hx195_0 := (cell_far (p := ⟨gb194, 1, none⟩) (by first | (rw [add_block]; exact hn195_1) | (show (Addr.add _ _).block ≠ _; rw [add_block]; exact hn195_1) | exact hn195_1) (.int .i64 ((rd_T24 l0 x5_1).f1))).trans hx195_0; replace hx195_1 := (cell_far (p := ⟨gb194, 1, none⟩) (by first | (rw [add_block]; exact hn195_1) | (show (Addr.add _ _).block ≠ _; rw [add_block]; exact hn195_1) | exact hn195_1) (.int .i64 ((rd_T24 l0 x5_1).f1))).trans hx195_1; replace hx195_2 := (cell_far (p := ⟨gb194, 1, none⟩) (by first | (rw [add_block]; exact hn195_1) | (show (Addr.add _ _).block ≠ _; rw [add_block]; exact hn195_1) | exact hn195_1) (.int .i64 ((rd_T24 l0 x5_1).f1))).trans hx195_2; replace hx195_3 := (cell_far (p := ⟨gb194, 1, none⟩) (by first | (rw [add_block]; exact hn195_1) | (show (Addr.add _ _).block ≠ _; rw [add_block]; exact hn195_1) | exact hn195_1) (.int .i64 ((rd_T24 l0 x5_1).f1))).trans hx195_3; replace hx195_4 := (cell_far (p := ⟨gb194, 1, none⟩) (by first | (rw [add_block]; exact hn195_1) | (show (Addr.add _ _).block ≠ _; rw [add_block]; exact hn195_1) | exact hn195_1) (.int .i64 ((rd_T24 l0 x5_1).f1))).trans hx195_4; replace hx195_0 := (cell_far (p := ⟨gb194, 2, none⟩) (by first | (rw [add_block]; exact hn195_2) | (show (Addr.add _ _).block ≠ _; rw [add_block]; exact hn195_2) | exact hn195_2) (.int .i64 ((rd_T24 l0 x5_1).f2))).trans hx195_0; replace hx195_1 := (cell_far (p := ⟨gb194, 2, none⟩) (by first | (rw [add_block]; exact hn195_2) | (show (Addr.add _ _).block ≠ _; rw [add_block]; exact hn195_2) | exact hn195_2) (.int .i64 ((rd_T24 l0 x5_1).f2))).trans hx195_1; replace hx195_2 := (cell_far (p := ⟨gb194, 2, none⟩) (by first | (rw [add_block]; exact hn195_2) | (show (Addr.add _ _).block ≠ _; rw [add_block]; exact hn195_2) | exact hn195_2) (.int .i64 ((rd_T24 l0 x5_1).f2))).trans hx195_2; replace hx195_3 := (cell_far (p := ⟨gb194, 2, none⟩) (by first | (rw [add_block]; exact hn195_2) | (show (Addr.add _ _).block ≠ _; rw [add_block]; exact hn195_2) | exact hn195_2) (.int .i64 ((rd_T24 l0 x5_1).f2))).trans hx195_3; replace hx195_4 := (cell_far (p := ⟨gb194, 2, none⟩) (by first | (rw [add_block]; exact hn195_2) | (show (Addr.add _ _).block ≠ _; rw [add_block]; exact hn195_2) | exact hn195_2) (.int .i64 ((rd_T24 l0 x5_1).f2))).trans hx195_4; replace hx195_0 := (cell_far (p := ⟨gb194, 3, none⟩) (by first | (rw [add_block]; exact hn195_3) | (show (Addr.add _ _).block ≠ _; rw [add_block]; exact hn195_3) | exact hn195_3) (.int .u64 ((rd_T24 l0 x5_1).f3))).trans hx195_0; replace hx195_1 := (cell_far (p := ⟨gb194, 3, none⟩) (by first | (rw [add_block]; exact hn195_3) | (show (Addr.add _ _).block ≠ _; rw [add_block]; exact hn195_3) | exact hn195_3) (.int .u64 ((rd_T24 l0 x5_1).f3))).trans hx195_1; replace hx195_2 := (cell_far (p := ⟨gb194, 3, none⟩) (by first | (rw [add_block]; exact hn195_3) | (show (Addr.add _ _).block ≠ _; rw [add_block]; exact hn195_3) | exact hn195_3) (.int .u64 ((rd_T24 l0 x5_1).f3))).trans hx195_2; replace hx195_3 := (cell_far (p := ⟨gb194, 3, none⟩) (by first | (rw [add_block]; exact hn195_3) | (show (Addr.add _ _).block ≠ _; rw [add_block]; exact hn195_3) | exact hn195_3) (.int .u64 ((rd_T24 l0 x5_1).f3))).trans hx195_3; replace hx195_4 := (cell_far (p := ⟨gb194, 3, none⟩) (by first | (rw [add_block]; exact hn195_3) | (show (Addr.add _ _).block ≠ _; rw [add_block]; exact hn195_3) | exact hn195_3) (.int .u64 ((rd_T24 l0 x5_1).f3))).trans hx195_4; replace hx195_0 := (cell_far (p := ⟨gb194, 4, none⟩) (by first | (rw [add_block]; exact hn195_4) | (show (Addr.add _ _).block ≠ _; rw [add_block]; exact hn195_4) | exact hn195_4) (.string ((rd_T24 l0 x5_1).f4))).trans hx195_0; replace hx195_1 := (cell_far (p := ⟨gb194, 4, none⟩) (by first | (rw [add_block]; exact hn195_4) | (show (Addr.add _ _).block ≠ _; rw [add_block]; exact hn195_4) | exact hn195_4) (.string ((rd_T24 l0 x5_1).f4))).trans hx195_1; replace hx195_2 := (cell_far (p := ⟨gb194, 4, none⟩) (by first | (rw [add_block]; exact hn195_4) | (show (Addr.add _ _).block ≠ _; rw [add_block]; exact hn195_4) | exact hn195_4) (.string ((rd_T24 l0 x5_1).f4))).trans hx195_2; replace hx195_3 := (cell_far (p := ⟨gb194, 4, none⟩) (by first | (rw [add_block]; exact hn195_4) | (show (Addr.add _ _).block ≠ _; rw [add_block]; exact hn195_4) | exact hn195_4) (.string ((rd_T24 l0 x5_1).f4))).trans hx195_3; replace hx195_4 := (cell_far (p := ⟨gb194, 4, none⟩) (by first | (rw [add_block]; exact hn195_4) | (show (Addr.add _ _).block ≠ _; rw [add_block]; exact hn195_4) | exact hn195_4) (.string ((rd_T24 l0 x5_1).f4))).trans hx195_4; clear hn195_0; clear hn195_1; clear hn195_2; clear hn195_3; clear hn195_4; replace p195 := eq_true p195; replace q195 := eq_true q195) | ((with_reducible refine gate_dst (N := 7) rfl ?_); refine box_event ?hg (N := 7) ?hd (cs := #[.int .i64 0, .int .i64 0, .int .i64 0, .int .u64 0, .string (⟨#[]⟩ : ByteArray)]) (t := 26) ?hr ?_; (case hd => rfl); (case hg => rfl); (case hr => first | (go_simp; done) | (go_simp; rfl)); intro gb196 hg w14 hbox hb; have n0_ := Aside0.mk (blk_below (g := gb194) (o := .cells #[.int .i64 ((rd_T24 l0 x5_1).f0), .int .i64 ((rd_T24 l0 x5_1).f1), .int .i64 ((rd_T24 l0 x5_1).f2), .int .u64 ((rd_T24 l0 x5_1).f3), .string ((rd_T24 l0 x5_1).f4)] 24 (0, 0)) (by (with_reducible repeat (first | refine blk_drewN ?_ _ | refine blk_drew ?_ | refine blk_alloc ?_ _)); refine blk_put (cs := #[.int .i64 ((rd_T24 l0 x5_1).f0), .int .i64 ((rd_T24 l0 x5_1).f1), .int .i64 ((rd_T24 l0 x5_1).f2), .int .u64 ((rd_T24 l0 x5_1).f3), .string (⟨#[]⟩ : ByteArray)]) ?_ 4 _ rfl; (with_reducible repeat (first | refine blk_drewN ?_ _ | refine blk_drew ?_ | refine blk_alloc ?_ _)); refine blk_put (cs := #[.int .i64 ((rd_T24 l0 x5_1).f0), .int .i64 ((rd_T24 l0 x5_1).f1), .int .i64 ((rd_T24 l0 x5_1).f2), .int .u64 0, .string (⟨#[]⟩ : ByteArray)]) ?_ 3 _ rfl; (with_reducible repeat (first | refine blk_drewN ?_ _ | refine blk_drew ?_ | refine blk_alloc ?_ _)); refine blk_put (cs := #[.int .i64 ((rd_T24 l0 x5_1).f0), .int .i64 ((rd_T24 l0 x5_1).f1), .int .i64 0, .int .u64 0, .string (⟨#[]⟩ : ByteArray)]) ?_ 2 _ rfl; (with_reducible repeat (first | refine blk_drewN ?_ _ | refine blk_drew ?_ | refine blk_alloc ?_ _)); refine blk_put (cs := #[.int .i64 ((rd_T24 l0 x5_1).f0), .int .i64 0, .int .i64 0, .int .u64 0, .string (⟨#[]⟩ : ByteArray)]) ?_ 1 _ rfl; (with_reducible repeat (first | refine blk_drewN ?_ _ | refine blk_drew ?_ | refine blk_alloc ?_ _)); refine blk_put (cs := #[.int .i64 0, .int .i64 0, .int .i64 0, .int .u64 0, .string (⟨#[]⟩ : ByteArray)]) ?_ 0 _ rfl; (with_reducible repeat (first | refine blk_drewN ?_ _ | refine blk_drew ?_ | refine blk_alloc ?_ _)); exact BK194.out) hb); have n1_ := Aside0.mk (below_step (by repeat (first | (with_reducible first | exact HB.out | apply below_alloc | apply pw_below_drewN | apply below_drew1 | refine below_set ?_ GE194.out) | exact HB.out)) hb); have n2_ := Aside0.mk (hbox); have n3_ := Aside0.mk ((by rw [hg]; exact (below_size (by repeat (first | (with_reducible first | exact HB.out | apply below_alloc | apply pw_below_drewN | apply below_drew1 | refine below_set ?_ GE194.out) | exact HB.out))) : w.heap.size ≤ gb196)); have n4_ := Aside0.mk ((by rw [hg]; exact (below_size (by repeat (first | (with_reducible first | exact HB.out | apply below_alloc | apply pw_below_drewN | apply below_drew1 | refine below_set ?_ GE194.out) | exact HB.out))) : w.heap.size ≤ gb196)); have n5_ := Aside0.mk ((by rw [hg]; exact Nat.ne_of_lt (blk_lt (g := gb194) (o := .cells #[.int .i64 ((rd_T24 l0 x5_1).f0), .int .i64 ((rd_T24 l0 x5_1).f1), .int .i64 ((rd_T24 l0 x5_1).f2), .int .u64 ((rd_T24 l0 x5_1).f3), .string ((rd_T24 l0 x5_1).f4)] 24 (0, 0)) (by (with_reducible repeat (first | refine blk_drewN ?_ _ | refine blk_drew ?_ | refine blk_alloc ?_ _)); refine blk_put (cs := #[.int .i64 ((rd_T24 l0 x5_1).f0), .int .i64 ((rd_T24 l0 x5_1).f1), .int .i64 ((rd_T24 l0 x5_1).f2), .int .u64 ((rd_T24 l0 x5_1).f3), .string (⟨#[]⟩ : ByteArray)]) ?_ 4 _ rfl; (with_reducible repeat (first | refine blk_drewN ?_ _ | refine blk_drew ?_ | refine blk_alloc ?_ _)); refine blk_put (cs := #[.int .i64 ((rd_T24 l0 x5_1).f0), .int .i64 ((rd_T24 l0 x5_1).f1), .int .i64 ((rd_T24 l0 x5_1).f2), .int .u64 0, .string (⟨#[]⟩ : ByteArray)]) ?_ 3 _ rfl; (with_reducible repeat (first | refine blk_drewN ?_ _ | refine blk_drew ?_ | refine blk_alloc ?_ _)); refine blk_put (cs := #[.int .i64 ((rd_T24 l0 x5_1).f0), .int .i64 ((rd_T24 l0 x5_1).f1), .int .i64 0, .int .u64 0, .string (⟨#[]⟩ : ByteArray)]) ?_ 2 _ rfl; (with_reducible repeat (first | refine blk_drewN ?_ _ | refine blk_drew ?_ | refine blk_alloc ?_ _)); refine blk_put (cs := #[.int .i64 ((rd_T24 l0 x5_1).f0), .int .i64 0, .int .i64 0, .int .u64 0, .string (⟨#[]⟩ : ByteArray)]) ?_ 1 _ rfl; (with_reducible repeat (first | refine blk_drewN ?_ _ | refine blk_drew ?_ | refine blk_alloc ?_ _)); refine blk_put (cs := #[.int .i64 0, .int .i64 0, .int .i64 0, .int .u64 0, .string (⟨#[]⟩ : ByteArray)]) ?_ 0 _ rfl; (with_reducible repeat (first | refine blk_drewN ?_ _ | refine blk_drew ?_ | refine blk_alloc ?_ _)); exact BK194.out)) : gb194 ≠ gb196)); have n6_ := Aside0.mk ((by rw [hg]; exact Nat.ne_of_gt (blk_lt (g := gb194) (o := .cells #[.int .i64 ((rd_T24 l0 x5_1).f0), .int .i64 ((rd_T24 l0 x5_1).f1), .int .i64 ((rd_T24 l0 x5_1).f2), .int .u64 ((rd_T24 l0 x5_1).f3), .string ((rd_T24 l0 x5_1).f4)] 24 (0, 0)) (by (with_reducible repeat (first | refine blk_drewN ?_ _ | refine blk_drew ?_ | refine blk_alloc ?_ _)); refine blk_put (cs := #[.int .i64 ((rd_T24 l0 x5_1).f0), .int .i64 ((rd_T24 l0 x5_1).f1), .int .i64 ((rd_T24 l0 x5_1).f2), .int .u64 ((rd_T24 l0 x5_1).f3), .string (⟨#[]⟩ : ByteArray)]) ?_ 4 _ rfl; (with_reducible repeat (first | refine blk_drewN ?_ _ | refine blk_drew ?_ | refine blk_alloc ?_ _)); refine blk_put (cs := #[.int .i64 ((rd_T24 l0 x5_1).f0), .int .i64 ((rd_T24 l0 x5_1).f1), .int .i64 ((rd_T24 l0 x5_1).f2), .int .u64 0, .string (⟨#[]⟩ : ByteArray)]) ?_ 3 _ rfl; (with_reducible repeat (first | refine blk_drewN ?_ _ | refine blk_drew ?_ | refine blk_alloc ?_ _)); refine blk_put (cs := #[.int .i64 ((rd_T24 l0 x5_1).f0), .int .i64 ((rd_T24 l0 x5_1).f1), .int .i64 0, .int .u64 0, .string (⟨#[]⟩ : ByteArray)]) ?_ 2 _ rfl; (with_reducible repeat (first | refine blk_drewN ?_ _ | refine blk_drew ?_ | refine blk_alloc ?_ _)); refine blk_put (cs := #[.int .i64 ((rd_T24 l0 x5_1).f0), .int .i64 0, .int .i64 0, .int .u64 0, .string (⟨#[]⟩ : ByteArray)]) ?_ 1 _ rfl; (with_reducible repeat (first | refine blk_drewN ?_ _ | refine blk_drew ?_ | refine blk_alloc ?_ _)); refine blk_put (cs := #[.int .i64 0, .int .i64 0, .int .i64 0, .int .u64 0, .string (⟨#[]⟩ : ByteArray)]) ?_ 0 _ rfl; (with_reducible repeat (first | refine blk_drewN ?_ _ | refine blk_drew ?_ | refine blk_alloc ?_ _)); exact BK194.out)) : gb196 ≠ gb194)); clear BK194; clear HB; have BK194 := n0_; have HB := n1_; have BK196 := n2_; have GW196 := n3_; have GE196 := n4_; have NB194_196 := n5_; have NB196_194 := n6_; clear n0_ n1_ n2_ n3_ n4_ n5_ n6_; clear hb hbox hg; have hnb15 := NB196_194.out; have hnc15 := NB194_196.out; have hcz16_0 : w14.cell? ⟨gb196, 0, none⟩ = some (.int .i64 0) := (blk_cell BK196.out 0).trans rfl; have hcz16_1 : w14.cell? ⟨gb196, 1, none⟩ = some (.int .i64 0) := (blk_cell BK196.out 1).trans rfl; have hcz16_2 : w14.cell? ⟨gb196, 2, none⟩ = some (.int .i64 0) := (blk_cell BK196.out 2).trans rfl; have hcz16_3 : w14.cell? ⟨gb196, 3, none⟩ = some (.int .u64 0) := (blk_cell BK196.out 3).trans rfl; have hcz16_4 : w14.cell? ⟨gb196, 4, none⟩ = some (.string (⟨#[]⟩ : ByteArray)) := (blk_cell BK196.out 4).trans rfl; have hfz16_0 := blk_frozen BK196.out 0; have hfz16_1 := blk_frozen BK196.out 1; have hfz16_2 := blk_frozen BK196.out 2; have hfz16_3 := blk_frozen BK196.out 3; have hfz16_4 := blk_frozen BK196.out 4; have hcz17_0 : w14.cell? ⟨gb194, 0, none⟩ = some (.int .i64 ((rd_T24 l0 x5_1).f0)) := (blk_cell BK194.out 0).trans rfl; have hcz17_1 : w14.cell? ⟨gb194, 1, none⟩ = some (.int .i64 ((rd_T24 l0 x5_1).f1)) := (blk_cell BK194.out 1).trans rfl; have hcz17_2 : w14.cell? ⟨gb194, 2, none⟩ = some (.int .i64 ((rd_T24 l0 x5_1).f2)) := (blk_cell BK194.out 2).trans rfl; have hcz17_3 : w14.cell? ⟨gb194, 3, none⟩ = some (.int .u64 ((rd_T24 l0 x5_1).f3)) := (blk_cell BK194.out 3).trans rfl; have hcz17_4 : w14.cell? ⟨gb194, 4, none⟩ = some (.string ((rd_T24 l0 x5_1).f4)) := (blk_cell BK194.out 4).trans rfl; have hfz17_0 := blk_frozen BK194.out 0; have hfz17_1 := blk_frozen BK194.out 1; have hfz17_2 := blk_frozen BK194.out 2; have hfz17_3 := blk_frozen BK194.out 3; have hfz17_4 := blk_frozen BK194.out 4))
            go_roundg k1
            case measure => have := HK1.out; omega
            case rel => exact ⟨(wrap64 (x5_1 + 1)), (by first | rfl | (simp; done) | (simp [*]; done)), H', ⟨by have := HK1.out; omega⟩, ⟨by repeat (first | (with_reducible first | exact HB.out | apply below_alloc | apply pw_below_drewN | apply below_drew1 | refine below_set ?_ GE194.out | refine below_set ?_ GE196.out) | exact HB.out)⟩⟩
           ·rw [if_neg c11] at H
            have c11b0 : (((rd_T24 l0 x5_1).f4).toList == ((rd_T26 l1 x5_1).f4).toList) = false := beq_eq_false_iff_ne.mpr c11
            have c11b1 : (((rd_T24 l0 x5_1).f4).toList != ((rd_T26 l1 x5_1).f4).toList) = true := bne_iff_ne.mpr c11
            obtain rfl := Option.some.inj H
            have p193 : 0 ≤ (x5_1 : Int) := of_decide_eq_true (by first | (with_reducible assumption) | assumption)
            have q193 : x5_1 < (l0.length : Int) := of_decide_eq_true (by first | (with_reducible assumption) | assumption)
            obtain ⟨ad193, e193, hx193_0, hx193_1, hx193_2, hx193_3, hx193_4⟩ := at_T24 HR0.out x5_1 p193 q193
            cases e193
            replace hx193_0 := (HB.out.cell (World.block_lt_of_cell? w _ hx193_0)).trans hx193_0
            replace hx193_1 := (HB.out.cell (World.block_lt_of_cell? w _ hx193_1)).trans hx193_1
            replace hx193_2 := (HB.out.cell (World.block_lt_of_cell? w _ hx193_2)).trans hx193_2
            replace hx193_3 := (HB.out.cell (World.block_lt_of_cell? w _ hx193_3)).trans hx193_3
            replace hx193_4 := (HB.out.cell (World.block_lt_of_cell? w _ hx193_4)).trans hx193_4
            replace p193 := eq_true p193
            replace q193 := eq_true q193
            go_wp2_with (first | ((with_reducible refine gate_dst (N := 6) rfl ?_); refine box_event ?hg (N := 6) ?hd (cs := #[.int .i64 0, .int .i64 0, .int .i64 0, .int .u64 0, .string (⟨#[]⟩ : ByteArray)]) (t := 24) ?hr ?_; (case hd => rfl); (case hg => rfl); (case hr => first | (go_simp; done) | (go_simp; rfl)); intro gb194 hg w18 hbox hb; have n0_ := Aside0.mk (below_step (by repeat (first | (with_reducible first | exact HB.out | apply below_alloc | apply pw_below_drewN | apply below_drew1) | exact HB.out)) hb); have n1_ := Aside0.mk (hbox); have n2_ := Aside0.mk ((by rw [hg]; exact (below_size (by repeat (first | (with_reducible first | exact HB.out | apply below_alloc | apply pw_below_drewN | apply below_drew1) | exact HB.out))) : w.heap.size ≤ gb194)); have n3_ := Aside0.mk ((by rw [hg]; exact (below_size (by repeat (first | (with_reducible first | exact HB.out | apply below_alloc | apply pw_below_drewN | apply below_drew1) | exact HB.out))) : w.heap.size ≤ gb194)); clear HB; have HB := n0_; have BK194 := n1_; have GW194 := n2_; have GE194 := n3_; clear n0_ n1_ n2_ n3_; clear hb hbox hg; have hcz19_0 : w18.cell? ⟨gb194, 0, none⟩ = some (.int .i64 0) := (blk_cell BK194.out 0).trans rfl; have hcz19_1 : w18.cell? ⟨gb194, 1, none⟩ = some (.int .i64 0) := (blk_cell BK194.out 1).trans rfl; have hcz19_2 : w18.cell? ⟨gb194, 2, none⟩ = some (.int .i64 0) := (blk_cell BK194.out 2).trans rfl; have hcz19_3 : w18.cell? ⟨gb194, 3, none⟩ = some (.int .u64 0) := (blk_cell BK194.out 3).trans rfl; have hcz19_4 : w18.cell? ⟨gb194, 4, none⟩ = some (.string (⟨#[]⟩ : ByteArray)) := (blk_cell BK194.out 4).trans rfl; have hfz19_0 := blk_frozen BK194.out 0; have hfz19_1 := blk_frozen BK194.out 1; have hfz19_2 := blk_frozen BK194.out 2; have hfz19_3 := blk_frozen BK194.out 3; have hfz19_4 := blk_frozen BK194.out 4; have p195 : 0 ≤ (x5_1 : Int) := of_decide_eq_true (by first | (with_reducible assumption) | assumption); have q195 : x5_1 < (l1.length : Int) := of_decide_eq_true (by first | (with_reducible assumption) | assumption); obtain ⟨ad195, e195, hx195_0, hx195_1, hx195_2, hx195_3, hx195_4⟩ := at_T26 HR1.out x5_1 p195 q195; cases e195; have hn195_0 : ad195.block ≠ gb194 := Nat.ne_of_lt (Nat.lt_of_lt_of_le (by have := World.block_lt_of_cell? _ _ hx195_0; first | rwa [add_block] at this | exact this) GW194.out); have hn195_1 : ad195.block ≠ gb194 := Nat.ne_of_lt (Nat.lt_of_lt_of_le (by have := World.block_lt_of_cell? _ _ hx195_0; first | rwa [add_block] at this | exact this) GW194.out); have hn195_2 : ad195.block ≠ gb194 := Nat.ne_of_lt (Nat.lt_of_lt_of_le (by have := World.block_lt_of_cell? _ _ hx195_0; first | rwa [add_block] at this | exact this) GW194.out); have hn195_3 : ad195.block ≠ gb194 := Nat.ne_of_lt (Nat.lt_of_lt_of_le (by have := World.block_lt_of_cell? _ _ hx195_0; first | rwa [add_block] at this | exact this) GW194.out); have hn195_4 : ad195.block ≠ gb194 := Nat.ne_of_lt (Nat.lt_of_lt_of_le (by have := World.block_lt_of_cell? _ _ hx195_0; first | rwa [add_block] at this | exact this) GW194.out); replace hx195_0 := (HB.out.cell (World.block_lt_of_cell? w _ hx195_0)).trans hx195_0; replace hx195_1 := (HB.out.cell (World.block_lt_of_cell? w _ hx195_1)).trans hx195_1; replace hx195_2 := (HB.out.cell (World.block_lt_of_cell? w _ hx195_2)).trans hx195_2; replace hx195_3 := (HB.out.cell (World.block_lt_of_cell? w _ hx195_3)).trans hx195_3; replace hx195_4 := (HB.out.cell (World.block_lt_of_cell? w _ hx195_4)).trans hx195_4; replace hx195_0 := (cell_far (p := ⟨gb194, 0, none⟩) (by first | (rw [add_block]; exact hn195_0) | (show (Addr.add _ _).block ≠ _; rw [add_block]; exact hn195_0) | exact hn195_0) (.int .i64 ((rd_T24 l0 x5_1).f0))).trans hx195_0; replace hx195_1 := (cell_far (p := ⟨gb194, 0, none⟩) (by first | (rw [add_block]; exact hn195_0) | (show (Addr.add _ _).block ≠ _; rw [add_block]; exact hn195_0) | exact hn195_0) (.int .i64 ((rd_T24 l0 x5_1).f0))).trans hx195_1; replace hx195_2 := (cell_far (p := ⟨gb194, 0, none⟩) (by first | (rw [add_block]; exact hn195_0) | (show (Addr.add _ _).block ≠ _; rw [add_block]; exact hn195_0) | exact hn195_0) (.int .i64 ((rd_T24 l0 x5_1).f0))).trans hx195_2; replace hx195_3 := (cell_far (p := ⟨gb194, 0, none⟩) (by first | (rw [add_block]; exact hn195_0) | (show (Addr.add _ _).block ≠ _; rw [add_block]; exact hn195_0) | exact hn195_0) (.int .i64 ((rd_T24 l0 x5_1).f0))).trans hx195_3; replace hx195_4 := (cell_far (p := ⟨gb194, 0, none⟩) (by first | (rw [add_block]; exact hn195_0) | (show (Addr.add _ _).block ≠ _; rw [add_block]; exact hn195_0) | exact hn195_0) (.int .i64 ((rd_T24 l0 x5_1).f0))).trans hx195_4; replace hx195_0 := (cell_far (p := ⟨gb194, 1, none⟩) (by first | (rw [add_block]; exact hn195_1) | (show (Addr.add _ _).block ≠ _; rw [add_block]; exact hn195_1) | exact hn195_1) (.int .i64 ((rd_T24 l0 x5_1).f1))).trans hx195_0; replace hx195_1 := (cell_far (p := ⟨gb194, 1, none⟩) (by first | (rw [add_block]; exact hn195_1) | (show (Addr.add _ _).block ≠ _; rw [add_block]; exact hn195_1) | exact hn195_1) (.int .i64 ((rd_T24 l0 x5_1).f1))).trans hx195_1; replace hx195_2 := (cell_far (p := ⟨gb194, 1, none⟩) (by first | (rw [add_block]; exact hn195_1) | (show (Addr.add _ _).block ≠ _; rw [add_block]; exact hn195_1) | exact hn195_1) (.int .i64 ((rd_T24 l0 x5_1).f1))).trans hx195_2; replace hx195_3 := (cell_far (p := ⟨gb194, 1, none⟩) (by first | (rw [add_block]; exact hn195_1) | (show (Addr.add _ _).block ≠ _; rw [add_block]; exact hn195_1) | exact hn195_1) (.int .i64 ((rd_T24 l0 x5_1).f1))).trans hx195_3; replace hx195_4 := (cell_far (p := ⟨gb194, 1, none⟩) (by first | (rw [add_block]; exact hn195_1) | (show (Addr.add _ _).block ≠ _; rw [add_block]; exact hn195_1) | exact hn195_1) (.int .i64 ((rd_T24 l0 x5_1).f1))).trans hx195_4; replace hx195_0 := (cell_far (p := ⟨gb194, 2, none⟩) (by first | (rw [add_block]; exact hn195_2) | (show (Addr.add _ _).block ≠ _; rw [add_block]; exact hn195_2) | exact hn195_2) (.int .i64 ((rd_T24 l0 x5_1).f2))).trans hx195_0; replace hx195_1 := (cell_far (p := ⟨gb194, 2, none⟩) (by first | (rw [add_block]; exact hn195_2) | (show (Addr.add _ _).block ≠ _; rw [add_block]; exact hn195_2) | exact hn195_2) (.int .i64 ((rd_T24 l0 x5_1).f2))).trans hx195_1; replace hx195_2 := (cell_far (p := ⟨gb194, 2, none⟩) (by first | (rw [add_block]; exact hn195_2) | (show (Addr.add _ _).block ≠ _; rw [add_block]; exact hn195_2) | exact hn195_2) (.int .i64 ((rd_T24 l0 x5_1).f2))).trans hx195_2; replace hx195_3 := (cell_far (p := ⟨gb194, 2, none⟩) (by first | (rw [add_block]; exact hn195_2) | (show (Addr.add _ _).block ≠ _; rw [add_block]; exact hn195_2) | exact hn195_2) (.int .i64 ((rd_T24 l0 x5_1).f2))).trans hx195_3; replace hx195_4 := (cell_far (p := ⟨gb194, 2, none⟩) (by first | (rw [add_block]; exact hn195_2) | (show (Addr.add _ _).block ≠ _; rw [add_block]; exact hn195_2) | exact hn195_2) (.int .i64 ((rd_T24 l0 x5_1).f2))).trans hx195_4; replace hx195_0 := (cell_far (p := ⟨gb194, 3, none⟩) (by first | (rw [add_block]; exact hn195_3) | (show (Addr.add _ _).block ≠ _; rw [add_block]; exact hn195_3) | exact hn195_3) (.int .u64 ((rd_T24 l0 x5_1).f3))).trans hx195_0; replace hx195_1 := (cell_far (p := ⟨gb194, 3, none⟩) (by first | (rw [add_block]; exact hn195_3) | (show (Addr.add _ _).block ≠ _; rw [add_block]; exact hn195_3) | exact hn195_3) (.int .u64 ((rd_T24 l0 x5_1).f3))).trans hx195_1; replace hx195_2 := (cell_far (p := ⟨gb194, 3, none⟩) (by first | (rw [add_block]; exact hn195_3) | (show (Addr.add _ _).block ≠ _; rw [add_block]; exact hn195_3) | exact hn195_3) (.int .u64 ((rd_T24 l0 x5_1).f3))).trans hx195_2; replace hx195_3 := (cell_far (p := ⟨gb194, 3, none⟩) (by first | (rw [add_block]; exact hn195_3) | (show (Addr.add _ _).block ≠ _; rw [add_block]; exact hn195_3) | exact hn195_3) (.int .u64 ((rd_T24 l0 x5_1).f3))).trans hx195_3; replace hx195_4 := (cell_far (p := ⟨gb194, 3, none⟩) (by first | (rw [add_block]; exact hn195_3) | (show (Addr.add _ _).block ≠ _; rw [add_block]; exact hn195_3) | exact hn195_3) (.int .u64 ((rd_T24 l0 x5_1).f3))).trans hx195_4; replace hx195_0 := (cell_far (p := ⟨gb194, 4, none⟩) (by first | (rw [add_block]; exact hn195_4) | (show (Addr.add _ _).block ≠ _; rw [add_block]; exact hn195_4) | exact hn195_4) (.string ((rd_T24 l0 x5_1).f4))).trans hx195_0; replace hx195_1 := (cell_far (p := ⟨gb194, 4, none⟩) (by first | (rw [add_block]; exact hn195_4) | (show (Addr.add _ _).block ≠ _; rw [add_block]; exact hn195_4) | exact hn195_4) (.string ((rd_T24 l0 x5_1).f4))).trans hx195_1; replace hx195_2 := (cell_far (p := ⟨gb194, 4, none⟩) (by first | (rw [add_block]; exact hn195_4) | (show (Addr.add _ _).block ≠ _; rw [add_block]; exact hn195_4) | exact hn195_4) (.string ((rd_T24 l0 x5_1).f4))).trans hx195_2; replace hx195_3 := (cell_far (p := ⟨gb194, 4, none⟩) (by first | (rw [add_block]; exact hn195_4) | (show (Addr.add _ _).block ≠ _; rw [add_block]; exact hn195_4) | exact hn195_4) (.string ((rd_T24 l0 x5_1).f4))).trans hx195_3; replace hx195_4 := (cell_far (p := ⟨gb194, 4, none⟩) (by first | (rw [add_block]; exact hn195_4) | (show (Addr.add _ _).block ≠ _; rw [add_block]; exact hn195_4) | exact hn195_4) (.string ((rd_T24 l0 x5_1).f4))).trans hx195_4; clear hn195_0; clear hn195_1; clear hn195_2; clear hn195_3; clear hn195_4; replace p195 := eq_true p195; replace q195 := eq_true q195) | ((with_reducible refine gate_dst (N := 7) rfl ?_); refine box_event ?hg (N := 7) ?hd (cs := #[.int .i64 0, .int .i64 0, .int .i64 0, .int .u64 0, .string (⟨#[]⟩ : ByteArray)]) (t := 26) ?hr ?_; (case hd => rfl); (case hg => rfl); (case hr => first | (go_simp; done) | (go_simp; rfl)); intro gb196 hg w20 hbox hb; have n0_ := Aside0.mk (blk_below (g := gb194) (o := .cells #[.int .i64 ((rd_T24 l0 x5_1).f0), .int .i64 ((rd_T24 l0 x5_1).f1), .int .i64 ((rd_T24 l0 x5_1).f2), .int .u64 ((rd_T24 l0 x5_1).f3), .string ((rd_T24 l0 x5_1).f4)] 24 (0, 0)) (by (with_reducible repeat (first | refine blk_drewN ?_ _ | refine blk_drew ?_ | refine blk_alloc ?_ _)); refine blk_put (cs := #[.int .i64 ((rd_T24 l0 x5_1).f0), .int .i64 ((rd_T24 l0 x5_1).f1), .int .i64 ((rd_T24 l0 x5_1).f2), .int .u64 ((rd_T24 l0 x5_1).f3), .string (⟨#[]⟩ : ByteArray)]) ?_ 4 _ rfl; (with_reducible repeat (first | refine blk_drewN ?_ _ | refine blk_drew ?_ | refine blk_alloc ?_ _)); refine blk_put (cs := #[.int .i64 ((rd_T24 l0 x5_1).f0), .int .i64 ((rd_T24 l0 x5_1).f1), .int .i64 ((rd_T24 l0 x5_1).f2), .int .u64 0, .string (⟨#[]⟩ : ByteArray)]) ?_ 3 _ rfl; (with_reducible repeat (first | refine blk_drewN ?_ _ | refine blk_drew ?_ | refine blk_alloc ?_ _)); refine blk_put (cs := #[.int .i64 ((rd_T24 l0 x5_1).f0), .int .i64 ((rd_T24 l0 x5_1).f1), .int .i64 0, .int .u64 0, .string (⟨#[]⟩ : ByteArray)]) ?_ 2 _ rfl; (with_reducible repeat (first | refine blk_drewN ?_ _ | refine blk_drew ?_ | refine blk_alloc ?_ _)); refine blk_put (cs := #[.int .i64 ((rd_T24 l0 x5_1).f0), .int .i64 0, .int .i64 0, .int .u64 0, .string (⟨#[]⟩ : ByteArray)]) ?_ 1 _ rfl; (with_reducible repeat (first | refine blk_drewN ?_ _ | refine blk_drew ?_ | refine blk_alloc ?_ _)); refine blk_put (cs := #[.int .i64 0, .int .i64 0, .int .i64 0, .int .u64 0, .string (⟨#[]⟩ : ByteArray)]) ?_ 0 _ rfl; (with_reducible repeat (first | refine blk_drewN ?_ _ | refine blk_drew ?_ | refine blk_alloc ?_ _)); exact BK194.out) hb); have n1_ := Aside0.mk (below_step (by repeat (first | (with_reducible first | exact HB.out | apply below_alloc | apply pw_below_drewN | apply below_drew1 | refine below_set ?_ GE194.out) | exact HB.out)) hb); have n2_ := Aside0.mk (hbox); have n3_ := Aside0.mk ((by rw [hg]; exact (below_size (by repeat (first | (with_reducible first | exact HB.out | apply below_alloc | apply pw_below_drewN | apply below_drew1 | refine below_set ?_ GE194.out) | exact HB.out))) : w.heap.size ≤ gb196)); have n4_ := Aside0.mk ((by rw [hg]; exact (below_size (by repeat (first | (with_reducible first | exact HB.out | apply below_alloc | apply pw_below_drewN | apply below_drew1 | refine below_set ?_ GE194.out) | exact HB.out))) : w.heap.size ≤ gb196)); have n5_ := Aside0.mk ((by rw [hg]; exact Nat.ne_of_lt (blk_lt (g := gb194) (o := .cells #[.int .i64 ((rd_T24 l0 x5_1).f0), .int .i64 ((rd_T24 l0 x5_1).f1), .int .i64 ((rd_T24 l0 x5_1).f2), .int .u64 ((rd_T24 l0 x5_1).f3), .string ((rd_T24 l0 x5_1).f4)] 24 (0, 0)) (by (with_reducible repeat (first | refine blk_drewN ?_ _ | refine blk_drew ?_ | refine blk_alloc ?_ _)); refine blk_put (cs := #[.int .i64 ((rd_T24 l0 x5_1).f0), .int .i64 ((rd_T24 l0 x5_1).f1), .int .i64 ((rd_T24 l0 x5_1).f2), .int .u64 ((rd_T24 l0 x5_1).f3), .string (⟨#[]⟩ : ByteArray)]) ?_ 4 _ rfl; (with_reducible repeat (first | refine blk_drewN ?_ _ | refine blk_drew ?_ | refine blk_alloc ?_ _)); refine blk_put (cs := #[.int .i64 ((rd_T24 l0 x5_1).f0), .int .i64 ((rd_T24 l0 x5_1).f1), .int .i64 ((rd_T24 l0 x5_1).f2), .int .u64 0, .string (⟨#[]⟩ : ByteArray)]) ?_ 3 _ rfl; (with_reducible repeat (first | refine blk_drewN ?_ _ | refine blk_drew ?_ | refine blk_alloc ?_ _)); refine blk_put (cs := #[.int .i64 ((rd_T24 l0 x5_1).f0), .int .i64 ((rd_T24 l0 x5_1).f1), .int .i64 0, .int .u64 0, .string (⟨#[]⟩ : ByteArray)]) ?_ 2 _ rfl; (with_reducible repeat (first | refine blk_drewN ?_ _ | refine blk_drew ?_ | refine blk_alloc ?_ _)); refine blk_put (cs := #[.int .i64 ((rd_T24 l0 x5_1).f0), .int .i64 0, .int .i64 0, .int .u64 0, .string (⟨#[]⟩ : ByteArray)]) ?_ 1 _ rfl; (with_reducible repeat (first | refine blk_drewN ?_ _ | refine blk_drew ?_ | refine blk_alloc ?_ _)); refine blk_put (cs := #[.int .i64 0, .int .i64 0, .int .i64 0, .int .u64 0, .string (⟨#[]⟩ : ByteArray)]) ?_ 0 _ rfl; (with_reducible repeat (first | refine blk_drewN ?_ _ | refine blk_drew ?_ | refine blk_alloc ?_ _)); exact BK194.out)) : gb194 ≠ gb196)); have n6_ := Aside0.mk ((by rw [hg]; exact Nat.ne_of_gt (blk_lt (g := gb194) (o := .cells #[.int .i64 ((rd_T24 l0 x5_1).f0), .int .i64 ((rd_T24 l0 x5_1).f1), .int .i64 ((rd_T24 l0 x5_1).f2), .int .u64 ((rd_T24 l0 x5_1).f3), .string ((rd_T24 l0 x5_1).f4)] 24 (0, 0)) (by (with_reducible repeat (first | refine blk_drewN ?_ _ | refine blk_drew ?_ | refine blk_alloc ?_ _)); refine blk_put (cs := #[.int .i64 ((rd_T24 l0 x5_1).f0), .int .i64 ((rd_T24 l0 x5_1).f1), .int .i64 ((rd_T24 l0 x5_1).f2), .int .u64 ((rd_T24 l0 x5_1).f3), .string (⟨#[]⟩ : ByteArray)]) ?_ 4 _ rfl; (with_reducible repeat (first | refine blk_drewN ?_ _ | refine blk_drew ?_ | refine blk_alloc ?_ _)); refine blk_put (cs := #[.int .i64 ((rd_T24 l0 x5_1).f0), .int .i64 ((rd_T24 l0 x5_1).f1), .int .i64 ((rd_T24 l0 x5_1).f2), .int .u64 0, .string (⟨#[]⟩ : ByteArray)]) ?_ 3 _ rfl; (with_reducible repeat (first | refine blk_drewN ?_ _ | refine blk_drew ?_ | refine blk_alloc ?_ _)); refine blk_put (cs := #[.int .i64 ((rd_T24 l0 x5_1).f0), .int .i64 ((rd_T24 l0 x5_1).f1), .int .i64 0, .int .u64 0, .string (⟨#[]⟩ : ByteArray)]) ?_ 2 _ rfl; (with_reducible repeat (first | refine blk_drewN ?_ _ | refine blk_drew ?_ | refine blk_alloc ?_ _)); refine blk_put (cs := #[.int .i64 ((rd_T24 l0 x5_1).f0), .int .i64 0, .int .i64 0, .int .u64 0, .string (⟨#[]⟩ : ByteArray)]) ?_ 1 _ rfl; (with_reducible repeat (first | refine blk_drewN ?_ _ | refine blk_drew ?_ | refine blk_alloc ?_ _)); refine blk_put (cs := #[.int .i64 0, .int .i64 0, .int .i64 0, .int .u64 0, .string (⟨#[]⟩ : ByteArray)]) ?_ 0 _ rfl; (with_reducible repeat (first | refine blk_drewN ?_ _ | refine blk_drew ?_ | refine blk_alloc ?_ _)); exact BK194.out)) : gb196 ≠ gb194)); clear BK194; clear HB; have BK194 := n0_; have HB := n1_; have BK196 := n2_; have GW196 := n3_; have GE196 := n4_; have NB194_196 := n5_; have NB196_194 := n6_; clear n0_ n1_ n2_ n3_ n4_ n5_ n6_; clear hb hbox hg; have hnb21 := NB196_194.out; have hnc21 := NB194_196.out; have hcz22_0 : w20.cell? ⟨gb196, 0, none⟩ = some (.int .i64 0) := (blk_cell BK196.out 0).trans rfl; have hcz22_1 : w20.cell? ⟨gb196, 1, none⟩ = some (.int .i64 0) := (blk_cell BK196.out 1).trans rfl; have hcz22_2 : w20.cell? ⟨gb196, 2, none⟩ = some (.int .i64 0) := (blk_cell BK196.out 2).trans rfl; have hcz22_3 : w20.cell? ⟨gb196, 3, none⟩ = some (.int .u64 0) := (blk_cell BK196.out 3).trans rfl; have hcz22_4 : w20.cell? ⟨gb196, 4, none⟩ = some (.string (⟨#[]⟩ : ByteArray)) := (blk_cell BK196.out 4).trans rfl; have hfz22_0 := blk_frozen BK196.out 0; have hfz22_1 := blk_frozen BK196.out 1; have hfz22_2 := blk_frozen BK196.out 2; have hfz22_3 := blk_frozen BK196.out 3; have hfz22_4 := blk_frozen BK196.out 4; have hcz23_0 : w20.cell? ⟨gb194, 0, none⟩ = some (.int .i64 ((rd_T24 l0 x5_1).f0)) := (blk_cell BK194.out 0).trans rfl; have hcz23_1 : w20.cell? ⟨gb194, 1, none⟩ = some (.int .i64 ((rd_T24 l0 x5_1).f1)) := (blk_cell BK194.out 1).trans rfl; have hcz23_2 : w20.cell? ⟨gb194, 2, none⟩ = some (.int .i64 ((rd_T24 l0 x5_1).f2)) := (blk_cell BK194.out 2).trans rfl; have hcz23_3 : w20.cell? ⟨gb194, 3, none⟩ = some (.int .u64 ((rd_T24 l0 x5_1).f3)) := (blk_cell BK194.out 3).trans rfl; have hcz23_4 : w20.cell? ⟨gb194, 4, none⟩ = some (.string ((rd_T24 l0 x5_1).f4)) := (blk_cell BK194.out 4).trans rfl; have hfz23_0 := blk_frozen BK194.out 0; have hfz23_1 := blk_frozen BK194.out 1; have hfz23_2 := blk_frozen BK194.out 2; have hfz23_3 := blk_frozen BK194.out 3; have hfz23_4 := blk_frozen BK194.out 4))
            go_ret
            exact ⟨by first | rfl | (simp [errW_none, errW_some] <;> rfl) | (simp [*, errW_none, errW_some] <;> rfl), by repeat (first | (with_reducible first | exact HB.out | apply below_alloc | apply pw_below_drewN | apply below_drew1 | refine below_set ?_ GE194.out | refine below_set ?_ GE196.out) | exact HB.out)⟩
          ·rw [if_neg c10] at H
           have c10b0 : (((rd_T24 l0 x5_1).f3) == ((rd_T26 l1 x5_1).f3)) = false := beq_eq_false_iff_ne.mpr c10
           have c10b1 : (((rd_T24 l0 x5_1).f3) != ((rd_T26 l1 x5_1).f3)) = true := bne_iff_ne.mpr c10
           obtain rfl := Option.some.inj H
           have p193 : 0 ≤ (x5_1 : Int) := of_decide_eq_true (by first | (with_reducible assumption) | assumption)
           have q193 : x5_1 < (l0.length : Int) := of_decide_eq_true (by first | (with_reducible assumption) | assumption)
           obtain ⟨ad193, e193, hx193_0, hx193_1, hx193_2, hx193_3, hx193_4⟩ := at_T24 HR0.out x5_1 p193 q193
           cases e193
           replace hx193_0 := (HB.out.cell (World.block_lt_of_cell? w _ hx193_0)).trans hx193_0
           replace hx193_1 := (HB.out.cell (World.block_lt_of_cell? w _ hx193_1)).trans hx193_1
           replace hx193_2 := (HB.out.cell (World.block_lt_of_cell? w _ hx193_2)).trans hx193_2
           replace hx193_3 := (HB.out.cell (World.block_lt_of_cell? w _ hx193_3)).trans hx193_3
           replace hx193_4 := (HB.out.cell (World.block_lt_of_cell? w _ hx193_4)).trans hx193_4
           replace p193 := eq_true p193
           replace q193 := eq_true q193
           go_wp2_with (first | ((with_reducible refine gate_dst (N := 6) rfl ?_); refine box_event ?hg (N := 6) ?hd (cs := #[.int .i64 0, .int .i64 0, .int .i64 0, .int .u64 0, .string (⟨#[]⟩ : ByteArray)]) (t := 24) ?hr ?_; (case hd => rfl); (case hg => rfl); (case hr => first | (go_simp; done) | (go_simp; rfl)); intro gb194 hg w24 hbox hb; have n0_ := Aside0.mk (below_step (by repeat (first | (with_reducible first | exact HB.out | apply below_alloc | apply pw_below_drewN | apply below_drew1) | exact HB.out)) hb); have n1_ := Aside0.mk (hbox); have n2_ := Aside0.mk ((by rw [hg]; exact (below_size (by repeat (first | (with_reducible first | exact HB.out | apply below_alloc | apply pw_below_drewN | apply below_drew1) | exact HB.out))) : w.heap.size ≤ gb194)); have n3_ := Aside0.mk ((by rw [hg]; exact (below_size (by repeat (first | (with_reducible first | exact HB.out | apply below_alloc | apply pw_below_drewN | apply below_drew1) | exact HB.out))) : w.heap.size ≤ gb194)); clear HB; have HB := n0_; have BK194 := n1_; have GW194 := n2_; have GE194 := n3_; clear n0_ n1_ n2_ n3_; clear hb hbox hg; have hcz25_0 : w24.cell? ⟨gb194, 0, none⟩ = some (.int .i64 0) := (blk_cell BK194.out 0).trans rfl; have hcz25_1 : w24.cell? ⟨gb194, 1, none⟩ = some (.int .i64 0) := (blk_cell BK194.out 1).trans rfl; have hcz25_2 : w24.cell? ⟨gb194, 2, none⟩ = some (.int .i64 0) := (blk_cell BK194.out 2).trans rfl; have hcz25_3 : w24.cell? ⟨gb194, 3, none⟩ = some (.int .u64 0) := (blk_cell BK194.out 3).trans rfl; have hcz25_4 : w24.cell? ⟨gb194, 4, none⟩ = some (.string (⟨#[]⟩ : ByteArray)) := (blk_cell BK194.out 4).trans rfl; have hfz25_0 := blk_frozen BK194.out 0; have hfz25_1 := blk_frozen BK194.out 1; have hfz25_2 := blk_frozen BK194.out 2; have hfz25_3 := blk_frozen BK194.out 3; have hfz25_4 := blk_frozen BK194.out 4; have p195 : 0 ≤ (x5_1 : Int) := of_decide_eq_true (by first | (with_reducible assumption) | assumption); have q195 : x5_1 < (l1.length : Int) := of_decide_eq_true (by first | (with_reducible assumption) | assumption); obtain ⟨ad195, e195, hx195_0, hx195_1, hx195_2, hx195_3, hx195_4⟩ := at_T26 HR1.out x5_1 p195 q195; cases e195; have hn195_0 : ad195.block ≠ gb194 := Nat.ne_of_lt (Nat.lt_of_lt_of_le (by have := World.block_lt_of_cell? _ _ hx195_0; first | rwa [add_block] at this | exact this) GW194.out); have hn195_1 : ad195.block ≠ gb194 := Nat.ne_of_lt (Nat.lt_of_lt_of_le (by have := World.block_lt_of_cell? _ _ hx195_0; first | rwa [add_block] at this | exact this) GW194.out); have hn195_2 : ad195.block ≠ gb194 := Nat.ne_of_lt (Nat.lt_of_lt_of_le (by have := World.block_lt_of_cell? _ _ hx195_0; first | rwa [add_block] at this | exact this) GW194.out); have hn195_3 : ad195.block ≠ gb194 := Nat.ne_of_lt (Nat.lt_of_lt_of_le (by have := World.block_lt_of_cell? _ _ hx195_0; first | rwa [add_block] at this | exact this) GW194.out); have hn195_4 : ad195.block ≠ gb194 := Nat.ne_of_lt (Nat.lt_of_lt_of_le (by have := World.block_lt_of_cell? _ _ hx195_0; first | rwa [add_block] at this | exact this) GW194.out); replace hx195_0 := (HB.out.cell (World.block_lt_of_cell? w _ hx195_0)).trans hx195_0; replace hx195_1 := (HB.out.cell (World.block_lt_of_cell? w _ hx195_1)).trans hx195_1; replace hx195_2 := (HB.out.cell (World.block_lt_of_cell? w _ hx195_2)).trans hx195_2; replace hx195_3 := (HB.out.cell (World.block_lt_of_cell? w _ hx195_3)).trans hx195_3; replace hx195_4 := (HB.out.cell (World.block_lt_of_cell? w _ hx195_4)).trans hx195_4; replace hx195_0 := (cell_far (p := ⟨gb194, 0, none⟩) (by first | (rw [add_block]; exact hn195_0) | (show (Addr.add _ _).block ≠ _; rw [add_block]; exact hn195_0) | exact hn195_0) (.int .i64 ((rd_T24 l0 x5_1).f0))).trans hx195_0; replace hx195_1 := (cell_far (p := ⟨gb194, 0, none⟩) (by first | (rw [add_block]; exact hn195_0) | (show (Addr.add _ _).block ≠ _; rw [add_block]; exact hn195_0) | exact hn195_0) (.int .i64 ((rd_T24 l0 x5_1).f0))).trans hx195_1; replace hx195_2 := (cell_far (p := ⟨gb194, 0, none⟩) (by first | (rw [add_block]; exact hn195_0) | (show (Addr.add _ _).block ≠ _; rw [add_block]; exact hn195_0) | exact hn195_0) (.int .i64 ((rd_T24 l0 x5_1).f0))).trans hx195_2; replace hx195_3 := (cell_far (p := ⟨gb194, 0, none⟩) (by first | (rw [add_block]; exact hn195_0) | (show (Addr.add _ _).block ≠ _; rw [add_block]; exact hn195_0) | exact hn195_0) (.int .i64 ((rd_T24 l0 x5_1).f0))).trans hx195_3; replace hx195_4 := (cell_far (p := ⟨gb194, 0, none⟩) (by first | (rw [add_block]; exact hn195_0) | (show (Addr.add _ _).block ≠ _; rw [add_block]; exact hn195_0) | exact hn195_0) (.int .i64 ((rd_T24 l0 x5_1).f0))).trans hx195_4; replace hx195_0 := (cell_far (p := ⟨gb194, 1, none⟩) (by first | (rw [add_block]; exact hn195_1) | (show (Addr.add _ _).block ≠ _; rw [add_block]; exact hn195_1) | exact hn195_1) (.int .i64 ((rd_T24 l0 x5_1).f1))).trans hx195_0; replace hx195_1 := (cell_far (p := ⟨gb194, 1, none⟩) (by first | (rw [add_block]; exact hn195_1) | (show (Addr.add _ _).block ≠ _; rw [add_block]; exact hn195_1) | exact hn195_1) (.int .i64 ((rd_T24 l0 x5_1).f1))).trans hx195_1; replace hx195_2 := (cell_far (p := ⟨gb194, 1, none⟩) (by first | (rw [add_block]; exact hn195_1) | (show (Addr.add _ _).block ≠ _; rw [add_block]; exact hn195_1) | exact hn195_1) (.int .i64 ((rd_T24 l0 x5_1).f1))).trans hx195_2; replace hx195_3 := (cell_far (p := ⟨gb194, 1, none⟩) (by first | (rw [add_block]; exact hn195_1) | (show (Addr.add _ _).block ≠ _; rw [add_block]; exact hn195_1) | exact hn195_1) (.int .i64 ((rd_T24 l0 x5_1).f1))).trans hx195_3; replace hx195_4 := (cell_far (p := ⟨gb194, 1, none⟩) (by first | (rw [add_block]; exact hn195_1) | (show (Addr.add _ _).block ≠ _; rw [add_block]; exact hn195_1) | exact hn195_1) (.int .i64 ((rd_T24 l0 x5_1).f1))).trans hx195_4; replace hx195_0 := (cell_far (p := ⟨gb194, 2, none⟩) (by first | (rw [add_block]; exact hn195_2) | (show (Addr.add _ _).block ≠ _; rw [add_block]; exact hn195_2) | exact hn195_2) (.int .i64 ((rd_T24 l0 x5_1).f2))).trans hx195_0; replace hx195_1 := (cell_far (p := ⟨gb194, 2, none⟩) (by first | (rw [add_block]; exact hn195_2) | (show (Addr.add _ _).block ≠ _; rw [add_block]; exact hn195_2) | exact hn195_2) (.int .i64 ((rd_T24 l0 x5_1).f2))).trans hx195_1; replace hx195_2 := (cell_far (p := ⟨gb194, 2, none⟩) (by first | (rw [add_block]; exact hn195_2) | (show (Addr.add _ _).block ≠ _; rw [add_block]; exact hn195_2) | exact hn195_2) (.int .i64 ((rd_T24 l0 x5_1).f2))).trans hx195_2; replace hx195_3 := (cell_far (p := ⟨gb194, 2, none⟩) (by first | (rw [add_block]; exact hn195_2) | (show (Addr.add _ _).block ≠ _; rw [add_block]; exact hn195_2) | exact hn195_2) (.int .i64 ((rd_T24 l0 x5_1).f2))).trans hx195_3; replace hx195_4 := (cell_far (p := ⟨gb194, 2, none⟩) (by first | (rw [add_block]; exact hn195_2) | (show (Addr.add _ _).block ≠ _; rw [add_block]; exact hn195_2) | exact hn195_2) (.int .i64 ((rd_T24 l0 x5_1).f2))).trans hx195_4; replace hx195_0 := (cell_far (p := ⟨gb194, 3, none⟩) (by first | (rw [add_block]; exact hn195_3) | (show (Addr.add _ _).block ≠ _; rw [add_block]; exact hn195_3) | exact hn195_3) (.int .u64 ((rd_T24 l0 x5_1).f3))).trans hx195_0; replace hx195_1 := (cell_far (p := ⟨gb194, 3, none⟩) (by first | (rw [add_block]; exact hn195_3) | (show (Addr.add _ _).block ≠ _; rw [add_block]; exact hn195_3) | exact hn195_3) (.int .u64 ((rd_T24 l0 x5_1).f3))).trans hx195_1; replace hx195_2 := (cell_far (p := ⟨gb194, 3, none⟩) (by first | (rw [add_block]; exact hn195_3) | (show (Addr.add _ _).block ≠ _; rw [add_block]; exact hn195_3) | exact hn195_3) (.int .u64 ((rd_T24 l0 x5_1).f3))).trans hx195_2; replace hx195_3 := (cell_far (p := ⟨gb194, 3, none⟩) (by first | (rw [add_block]; exact hn195_3) | (show (Addr.add _ _).block ≠ _; rw [add_block]; exact hn195_3) | exact hn195_3) (.int .u64 ((rd_T24 l0 x5_1).f3))).trans hx195_3; replace hx195_4 := (cell_far (p := ⟨gb194, 3, none⟩) (by first | (rw [add_block]; exact hn195_3) | (show (Addr.add _ _).block ≠ _; rw [add_block]; exact hn195_3) | exact hn195_3) (.int .u64 ((rd_T24 l0 x5_1).f3))).trans hx195_4; replace hx195_0 := (cell_far (p := ⟨gb194, 4, none⟩) (by first | (rw [add_block]; exact hn195_4) | (show (Addr.add _ _).block ≠ _; rw [add_block]; exact hn195_4) | exact hn195_4) (.string ((rd_T24 l0 x5_1).f4))).trans hx195_0; replace hx195_1 := (cell_far (p := ⟨gb194, 4, none⟩) (by first | (rw [add_block]; exact hn195_4) | (show (Addr.add _ _).block ≠ _; rw [add_block]; exact hn195_4) | exact hn195_4) (.string ((rd_T24 l0 x5_1).f4))).trans hx195_1; replace hx195_2 := (cell_far (p := ⟨gb194, 4, none⟩) (by first | (rw [add_block]; exact hn195_4) | (show (Addr.add _ _).block ≠ _; rw [add_block]; exact hn195_4) | exact hn195_4) (.string ((rd_T24 l0 x5_1).f4))).trans hx195_2; replace hx195_3 := (cell_far (p := ⟨gb194, 4, none⟩) (by first | (rw [add_block]; exact hn195_4) | (show (Addr.add _ _).block ≠ _; rw [add_block]; exact hn195_4) | exact hn195_4) (.string ((rd_T24 l0 x5_1).f4))).trans hx195_3; replace hx195_4 := (cell_far (p := ⟨gb194, 4, none⟩) (by first | (rw [add_block]; exact hn195_4) | (show (Addr.add _ _).block ≠ _; rw [add_block]; exact hn195_4) | exact hn195_4) (.string ((rd_T24 l0 x5_1).f4))).trans hx195_4; clear hn195_0; clear hn195_1; clear hn195_2; clear hn195_3; clear hn195_4; replace p195 := eq_true p195; replace q195 := eq_true q195) | ((with_reducible refine gate_dst (N := 7) rfl ?_); refine box_event ?hg (N := 7) ?hd (cs := #[.int .i64 0, .int .i64 0, .int .i64 0, .int .u64 0, .string (⟨#[]⟩ : ByteArray)]) (t := 26) ?hr ?_; (case hd => rfl); (case hg => rfl); (case hr => first | (go_simp; done) | (go_simp; rfl)); intro gb196 hg w26 hbox hb; have n0_ := Aside0.mk (blk_below (g := gb194) (o := .cells #[.int .i64 ((rd_T24 l0 x5_1).f0), .int .i64 ((rd_T24 l0 x5_1).f1), .int .i64 ((rd_T24 l0 x5_1).f2), .int .u64 ((rd_T24 l0 x5_1).f3), .string ((rd_T24 l0 x5_1).f4)] 24 (0, 0)) (by (with_reducible repeat (first | refine blk_drewN ?_ _ | refine blk_drew ?_ | refine blk_alloc ?_ _)); refine blk_put (cs := #[.int .i64 ((rd_T24 l0 x5_1).f0), .int .i64 ((rd_T24 l0 x5_1).f1), .int .i64 ((rd_T24 l0 x5_1).f2), .int .u64 ((rd_T24 l0 x5_1).f3), .string (⟨#[]⟩ : ByteArray)]) ?_ 4 _ rfl; (with_reducible repeat (first | refine blk_drewN ?_ _ | refine blk_drew ?_ | refine blk_alloc ?_ _)); refine blk_put (cs := #[.int .i64 ((rd_T24 l0 x5_1).f0), .int .i64 ((rd_T24 l0 x5_1).f1), .int .i64 ((rd_T24 l0 x5_1).f2), .int .u64 0, .string (⟨#[]⟩ : ByteArray)]) ?_ 3 _ rfl; (with_reducible repeat (first | refine blk_drewN ?_ _ | refine blk_drew ?_ | refine blk_alloc ?_ _)); refine blk_put (cs := #[.int .i64 ((rd_T24 l0 x5_1).f0), .int .i64 ((rd_T24 l0 x5_1).f1), .int .i64 0, .int .u64 0, .string (⟨#[]⟩ : ByteArray)]) ?_ 2 _ rfl; (with_reducible repeat (first | refine blk_drewN ?_ _ | refine blk_drew ?_ | refine blk_alloc ?_ _)); refine blk_put (cs := #[.int .i64 ((rd_T24 l0 x5_1).f0), .int .i64 0, .int .i64 0, .int .u64 0, .string (⟨#[]⟩ : ByteArray)]) ?_ 1 _ rfl; (with_reducible repeat (first | refine blk_drewN ?_ _ | refine blk_drew ?_ | refine blk_alloc ?_ _)); refine blk_put (cs := #[.int .i64 0, .int .i64 0, .int .i64 0, .int .u64 0, .string (⟨#[]⟩ : ByteArray)]) ?_ 0 _ rfl; (with_reducible repeat (first | refine blk_drewN ?_ _ | refine blk_drew ?_ | refine blk_alloc ?_ _)); exact BK194.out) hb); have n1_ := Aside0.mk (below_step (by repeat (first | (with_reducible first | exact HB.out | apply below_alloc | apply pw_below_drewN | apply below_drew1 | refine below_set ?_ GE194.out) | exact HB.out)) hb); have n2_ := Aside0.mk (hbox); have n3_ := Aside0.mk ((by rw [hg]; exact (below_size (by repeat (first | (with_reducible first | exact HB.out | apply below_alloc | apply pw_below_drewN | apply below_drew1 | refine below_set ?_ GE194.out) | exact HB.out))) : w.heap.size ≤ gb196)); have n4_ := Aside0.mk ((by rw [hg]; exact (below_size (by repeat (first | (with_reducible first | exact HB.out | apply below_alloc | apply pw_below_drewN | apply below_drew1 | refine below_set ?_ GE194.out) | exact HB.out))) : w.heap.size ≤ gb196)); have n5_ := Aside0.mk ((by rw [hg]; exact Nat.ne_of_lt (blk_lt (g := gb194) (o := .cells #[.int .i64 ((rd_T24 l0 x5_1).f0), .int .i64 ((rd_T24 l0 x5_1).f1), .int .i64 ((rd_T24 l0 x5_1).f2), .int .u64 ((rd_T24 l0 x5_1).f3), .string ((rd_T24 l0 x5_1).f4)] 24 (0, 0)) (by (with_reducible repeat (first | refine blk_drewN ?_ _ | refine blk_drew ?_ | refine blk_alloc ?_ _)); refine blk_put (cs := #[.int .i64 ((rd_T24 l0 x5_1).f0), .int .i64 ((rd_T24 l0 x5_1).f1), .int .i64 ((rd_T24 l0 x5_1).f2), .int .u64 ((rd_T24 l0 x5_1).f3), .string (⟨#[]⟩ : ByteArray)]) ?_ 4 _ rfl; (with_reducible repeat (first | refine blk_drewN ?_ _ | refine blk_drew ?_ | refine blk_alloc ?_ _)); refine blk_put (cs := #[.int .i64 ((rd_T24 l0 x5_1).f0), .int .i64 ((rd_T24 l0 x5_1).f1), .int .i64 ((rd_T24 l0 x5_1).f2), .int .u64 0, .string (⟨#[]⟩ : ByteArray)]) ?_ 3 _ rfl; (with_reducible repeat (first | refine blk_drewN ?_ _ | refine blk_drew ?_ | refine blk_alloc ?_ _)); refine blk_put (cs := #[.int .i64 ((rd_T24 l0 x5_1).f0), .int .i64 ((rd_T24 l0 x5_1).f1), .int .i64 0, .int .u64 0, .string (⟨#[]⟩ : ByteArray)]) ?_ 2 _ rfl; (with_reducible repeat (first | refine blk_drewN ?_ _ | refine blk_drew ?_ | refine blk_alloc ?_ _)); refine blk_put (cs := #[.int .i64 ((rd_T24 l0 x5_1).f0), .int .i64 0, .int .i64 0, .int .u64 0, .string (⟨#[]⟩ : ByteArray)]) ?_ 1 _ rfl; (with_reducible repeat (first | refine blk_drewN ?_ _ | refine blk_drew ?_ | refine blk_alloc ?_ _)); refine blk_put (cs := #[.int .i64 0, .int .i64 0, .int .i64 0, .int .u64 0, .string (⟨#[]⟩ : ByteArray)]) ?_ 0 _ rfl; (with_reducible repeat (first | refine blk_drewN ?_ _ | refine blk_drew ?_ | refine blk_alloc ?_ _)); exact BK194.out)) : gb194 ≠ gb196)); have n6_ := Aside0.mk ((by rw [hg]; exact Nat.ne_of_gt (blk_lt (g := gb194) (o := .cells #[.int .i64 ((rd_T24 l0 x5_1).f0), .int .i64 ((rd_T24 l0 x5_1).f1), .int .i64 ((rd_T24 l0 x5_1).f2), .int .u64 ((rd_T24 l0 x5_1).f3), .string ((rd_T24 l0 x5_1).f4)] 24 (0, 0)) (by (with_reducible repeat (first | refine blk_drewN ?_ _ | refine blk_drew ?_ | refine blk_alloc ?_ _)); refine blk_put (cs := #[.int .i64 ((rd_T24 l0 x5_1).f0), .int .i64 ((rd_T24 l0 x5_1).f1), .int .i64 ((rd_T24 l0 x5_1).f2), .int .u64 ((rd_T24 l0 x5_1).f3), .string (⟨#[]⟩ : ByteArray)]) ?_ 4 _ rfl; (with_reducible repeat (first | refine blk_drewN ?_ _ | refine blk_drew ?_ | refine blk_alloc ?_ _)); refine blk_put (cs := #[.int .i64 ((rd_T24 l0 x5_1).f0), .int .i64 ((rd_T24 l0 x5_1).f1), .int .i64 ((rd_T24 l0 x5_1).f2), .int .u64 0, .string (⟨#[]⟩ : ByteArray)]) ?_ 3 _ rfl; (with_reducible repeat (first | refine blk_drewN ?_ _ | refine blk_drew ?_ | refine blk_alloc ?_ _)); refine blk_put (cs := #[.int .i64 ((rd_T24 l0 x5_1).f0), .int .i64 ((rd_T24 l0 x5_1).f1), .int .i64 0, .int .u64 0, .string (⟨#[]⟩ : ByteArray)]) ?_ 2 _ rfl; (with_reducible repeat (first | refine blk_drewN ?_ _ | refine blk_drew ?_ | refine blk_alloc ?_ _)); refine blk_put (cs := #[.int .i64 ((rd_T24 l0 x5_1).f0), .int .i64 0, .int .i64 0, .int .u64 0, .string (⟨#[]⟩ : ByteArray)]) ?_ 1 _ rfl; (with_reducible repeat (first | refine blk_drewN ?_ _ | refine blk_drew ?_ | refine blk_alloc ?_ _)); refine blk_put (cs := #[.int .i64 0, .int .i64 0, .int .i64 0, .int .u64 0, .string (⟨#[]⟩ : ByteArray)]) ?_ 0 _ rfl; (with_reducible repeat (first | refine blk_drewN ?_ _ | refine blk_drew ?_ | refine blk_alloc ?_ _)); exact BK194.out)) : gb196 ≠ gb194)); clear BK194; clear HB; have BK194 := n0_; have HB := n1_; have BK196 := n2_; have GW196 := n3_; have GE196 := n4_; have NB194_196 := n5_; have NB196_194 := n6_; clear n0_ n1_ n2_ n3_ n4_ n5_ n6_; clear hb hbox hg; have hnb27 := NB196_194.out; have hnc27 := NB194_196.out; have hcz28_0 : w26.cell? ⟨gb196, 0, none⟩ = some (.int .i64 0) := (blk_cell BK196.out 0).trans rfl; have hcz28_1 : w26.cell? ⟨gb196, 1, none⟩ = some (.int .i64 0) := (blk_cell BK196.out 1).trans rfl; have hcz28_2 : w26.cell? ⟨gb196, 2, none⟩ = some (.int .i64 0) := (blk_cell BK196.out 2).trans rfl; have hcz28_3 : w26.cell? ⟨gb196, 3, none⟩ = some (.int .u64 0) := (blk_cell BK196.out 3).trans rfl; have hcz28_4 : w26.cell? ⟨gb196, 4, none⟩ = some (.string (⟨#[]⟩ : ByteArray)) := (blk_cell BK196.out 4).trans rfl; have hfz28_0 := blk_frozen BK196.out 0; have hfz28_1 := blk_frozen BK196.out 1; have hfz28_2 := blk_frozen BK196.out 2; have hfz28_3 := blk_frozen BK196.out 3; have hfz28_4 := blk_frozen BK196.out 4; have hcz29_0 : w26.cell? ⟨gb194, 0, none⟩ = some (.int .i64 ((rd_T24 l0 x5_1).f0)) := (blk_cell BK194.out 0).trans rfl; have hcz29_1 : w26.cell? ⟨gb194, 1, none⟩ = some (.int .i64 ((rd_T24 l0 x5_1).f1)) := (blk_cell BK194.out 1).trans rfl; have hcz29_2 : w26.cell? ⟨gb194, 2, none⟩ = some (.int .i64 ((rd_T24 l0 x5_1).f2)) := (blk_cell BK194.out 2).trans rfl; have hcz29_3 : w26.cell? ⟨gb194, 3, none⟩ = some (.int .u64 ((rd_T24 l0 x5_1).f3)) := (blk_cell BK194.out 3).trans rfl; have hcz29_4 : w26.cell? ⟨gb194, 4, none⟩ = some (.string ((rd_T24 l0 x5_1).f4)) := (blk_cell BK194.out 4).trans rfl; have hfz29_0 := blk_frozen BK194.out 0; have hfz29_1 := blk_frozen BK194.out 1; have hfz29_2 := blk_frozen BK194.out 2; have hfz29_3 := blk_frozen BK194.out 3; have hfz29_4 := blk_frozen BK194.out 4))
           go_ret
           exact ⟨by first | rfl | (simp [errW_none, errW_some] <;> rfl) | (simp [*, errW_none, errW_some] <;> rfl), by repeat (first | (with_reducible first | exact HB.out | apply below_alloc | apply pw_below_drewN | apply below_drew1 | refine below_set ?_ GE194.out | refine below_set ?_ GE196.out) | exact HB.out)⟩
         ·rw [if_neg c9] at H
          have c9b0 : (((rd_T24 l0 x5_1).f2) == ((rd_T26 l1 x5_1).f2)) = false := beq_eq_false_iff_ne.mpr c9
          have c9b1 : (((rd_T24 l0 x5_1).f2) != ((rd_T26 l1 x5_1).f2)) = true := bne_iff_ne.mpr c9
          obtain rfl := Option.some.inj H
          have p193 : 0 ≤ (x5_1 : Int) := of_decide_eq_true (by first | (with_reducible assumption) | assumption)
          have q193 : x5_1 < (l0.length : Int) := of_decide_eq_true (by first | (with_reducible assumption) | assumption)
          obtain ⟨ad193, e193, hx193_0, hx193_1, hx193_2, hx193_3, hx193_4⟩ := at_T24 HR0.out x5_1 p193 q193
          cases e193
          replace hx193_0 := (HB.out.cell (World.block_lt_of_cell? w _ hx193_0)).trans hx193_0
          replace hx193_1 := (HB.out.cell (World.block_lt_of_cell? w _ hx193_1)).trans hx193_1
          replace hx193_2 := (HB.out.cell (World.block_lt_of_cell? w _ hx193_2)).trans hx193_2
          replace hx193_3 := (HB.out.cell (World.block_lt_of_cell? w _ hx193_3)).trans hx193_3
          replace hx193_4 := (HB.out.cell (World.block_lt_of_cell? w _ hx193_4)).trans hx193_4
          replace p193 := eq_true p193
          replace q193 := eq_true q193
          go_wp2_with (first | ((with_reducible refine gate_dst (N := 6) rfl ?_); refine box_event ?hg (N := 6) ?hd (cs := #[.int .i64 0, .int .i64 0, .int .i64 0, .int .u64 0, .string (⟨#[]⟩ : ByteArray)]) (t := 24) ?hr ?_; (case hd => rfl); (case hg => rfl); (case hr => first | (go_simp; done) | (go_simp; rfl)); intro gb194 hg w30 hbox hb; have n0_ := Aside0.mk (below_step (by repeat (first | (with_reducible first | exact HB.out | apply below_alloc | apply pw_below_drewN | apply below_drew1) | exact HB.out)) hb); have n1_ := Aside0.mk (hbox); have n2_ := Aside0.mk ((by rw [hg]; exact (below_size (by repeat (first | (with_reducible first | exact HB.out | apply below_alloc | apply pw_below_drewN | apply below_drew1) | exact HB.out))) : w.heap.size ≤ gb194)); have n3_ := Aside0.mk ((by rw [hg]; exact (below_size (by repeat (first | (with_reducible first | exact HB.out | apply below_alloc | apply pw_below_drewN | apply below_drew1) | exact HB.out))) : w.heap.size ≤ gb194)); clear HB; have HB := n0_; have BK194 := n1_; have GW194 := n2_; have GE194 := n3_; clear n0_ n1_ n2_ n3_; clear hb hbox hg; have hcz31_0 : w30.cell? ⟨gb194, 0, none⟩ = some (.int .i64 0) := (blk_cell BK194.out 0).trans rfl; have hcz31_1 : w30.cell? ⟨gb194, 1, none⟩ = some (.int .i64 0) := (blk_cell BK194.out 1).trans rfl; have hcz31_2 : w30.cell? ⟨gb194, 2, none⟩ = some (.int .i64 0) := (blk_cell BK194.out 2).trans rfl; have hcz31_3 : w30.cell? ⟨gb194, 3, none⟩ = some (.int .u64 0) := (blk_cell BK194.out 3).trans rfl; have hcz31_4 : w30.cell? ⟨gb194, 4, none⟩ = some (.string (⟨#[]⟩ : ByteArray)) := (blk_cell BK194.out 4).trans rfl; have hfz31_0 := blk_frozen BK194.out 0; have hfz31_1 := blk_frozen BK194.out 1; have hfz31_2 := blk_frozen BK194.out 2; have hfz31_3 := blk_frozen BK194.out 3; have hfz31_4 := blk_frozen BK194.out 4; have p195 : 0 ≤ (x5_1 : Int) := of_decide_eq_true (by first | (with_reducible assumption) | assumption); have q195 : x5_1 < (l1.length : Int) := of_decide_eq_true (by first | (with_reducible assumption) | assumption); obtain ⟨ad195, e195, hx195_0, hx195_1, hx195_2, hx195_3, hx195_4⟩ := at_T26 HR1.out x5_1 p195 q195; cases e195; have hn195_0 : ad195.block ≠ gb194 := Nat.ne_of_lt (Nat.lt_of_lt_of_le (by have := World.block_lt_of_cell? _ _ hx195_0; first | rwa [add_block] at this | exact this) GW194.out); have hn195_1 : ad195.block ≠ gb194 := Nat.ne_of_lt (Nat.lt_of_lt_of_le (by have := World.block_lt_of_cell? _ _ hx195_0; first | rwa [add_block] at this | exact this) GW194.out); have hn195_2 : ad195.block ≠ gb194 := Nat.ne_of_lt (Nat.lt_of_lt_of_le (by have := World.block_lt_of_cell? _ _ hx195_0; first | rwa [add_block] at this | exact this) GW194.out); have hn195_3 : ad195.block ≠ gb194 := Nat.ne_of_lt (Nat.lt_of_lt_of_le (by have := World.block_lt_of_cell? _ _ hx195_0; first | rwa [add_block] at this | exact this) GW194.out); have hn195_4 : ad195.block ≠ gb194 := Nat.ne_of_lt (Nat.lt_of_lt_of_le (by have := World.block_lt_of_cell? _ _ hx195_0; first | rwa [add_block] at this | exact this) GW194.out); replace hx195_0 := (HB.out.cell (World.block_lt_of_cell? w _ hx195_0)).trans hx195_0; replace hx195_1 := (HB.out.cell (World.block_lt_of_cell? w _ hx195_1)).trans hx195_1; replace hx195_2 := (HB.out.cell (World.block_lt_of_cell? w _ hx195_2)).trans hx195_2; replace hx195_3 := (HB.out.cell (World.block_lt_of_cell? w _ hx195_3)).trans hx195_3; replace hx195_4 := (HB.out.cell (World.block_lt_of_cell? w _ hx195_4)).trans hx195_4; replace hx195_0 := (cell_far (p := ⟨gb194, 0, none⟩) (by first | (rw [add_block]; exact hn195_0) | (show (Addr.add _ _).block ≠ _; rw [add_block]; exact hn195_0) | exact hn195_0) (.int .i64 ((rd_T24 l0 x5_1).f0))).trans hx195_0; replace hx195_1 := (cell_far (p := ⟨gb194, 0, none⟩) (by first | (rw [add_block]; exact hn195_0) | (show (Addr.add _ _).block ≠ _; rw [add_block]; exact hn195_0) | exact hn195_0) (.int .i64 ((rd_T24 l0 x5_1).f0))).trans hx195_1; replace hx195_2 := (cell_far (p := ⟨gb194, 0, none⟩) (by first | (rw [add_block]; exact hn195_0) | (show (Addr.add _ _).block ≠ _; rw [add_block]; exact hn195_0) | exact hn195_0) (.int .i64 ((rd_T24 l0 x5_1).f0))).trans hx195_2; replace hx195_3 := (cell_far (p := ⟨gb194, 0, none⟩) (by first | (rw [add_block]; exact hn195_0) | (show (Addr.add _ _).block ≠ _; rw [add_block]; exact hn195_0) | exact hn195_0) (.int .i64 ((rd_T24 l0 x5_1).f0))).trans hx195_3; replace hx195_4 := (cell_far (p := ⟨gb194, 0, none⟩) (by first | (rw [add_block]; exact hn195_0) | (show (Addr.add _ _).block ≠ _; rw [add_block]; exact hn195_0) | exact hn195_0) (.int .i64 ((rd_T24 l0 x5_1).f0))).trans hx195_4; replace hx195_0 := (cell_far (p := ⟨gb194, 1, none⟩) (by first | (rw [add_block]; exact hn195_1) | (show (Addr.add _ _).block ≠ _; rw [add_block]; exact hn195_1) | exact hn195_1) (.int .i64 ((rd_T24 l0 x5_1).f1))).trans hx195_0; replace hx195_1 := (cell_far (p := ⟨gb194, 1, none⟩) (by first | (rw [add_block]; exact hn195_1) | (show (Addr.add _ _).block ≠ _; rw [add_block]; exact hn195_1) | exact hn195_1) (.int .i64 ((rd_T24 l0 x5_1).f1))).trans hx195_1; replace hx195_2 := (cell_far (p := ⟨gb194, 1, none⟩) (by first | (rw [add_block]; exact hn195_1) | (show (Addr.add _ _).block ≠ _; rw [add_block]; exact hn195_1) | exact hn195_1) (.int .i64 ((rd_T24 l0 x5_1).f1))).trans hx195_2; replace hx195_3 := (cell_far (p := ⟨gb194, 1, none⟩) (by first | (rw [add_block]; exact hn195_1) | (show (Addr.add _ _).block ≠ _; rw [add_block]; exact hn195_1) | exact hn195_1) (.int .i64 ((rd_T24 l0 x5_1).f1))).trans hx195_3; replace hx195_4 := (cell_far (p := ⟨gb194, 1, none⟩) (by first | (rw [add_block]; exact hn195_1) | (show (Addr.add _ _).block ≠ _; rw [add_block]; exact hn195_1) | exact hn195_1) (.int .i64 ((rd_T24 l0 x5_1).f1))).trans hx195_4; replace hx195_0 := (cell_far (p := ⟨gb194, 2, none⟩) (by first | (rw [add_block]; exact hn195_2) | (show (Addr.add _ _).block ≠ _; rw [add_block]; exact hn195_2) | exact hn195_2) (.int .i64 ((rd_T24 l0 x5_1).f2))).trans hx195_0; replace hx195_1 := (cell_far (p := ⟨gb194, 2, none⟩) (by first | (rw [add_block]; exact hn195_2) | (show (Addr.add _ _).block ≠ _; rw [add_block]; exact hn195_2) | exact hn195_2) (.int .i64 ((rd_T24 l0 x5_1).f2))).trans hx195_1; replace hx195_2 := (cell_far (p := ⟨gb194, 2, none⟩) (by first | (rw [add_block]; exact hn195_2) | (show (Addr.add _ _).block ≠ _; rw [add_block]; exact hn195_2) | exact hn195_2) (.int .i64 ((rd_T24 l0 x5_1).f2))).trans hx195_2; replace hx195_3 := (cell_far (p := ⟨gb194, 2, none⟩) (by first | (rw [add_block]; exact hn195_2) | (show (Addr.add _ _).block ≠ _; rw [add_block]; exact hn195_2) | exact hn195_2) (.int .i64 ((rd_T24 l0 x5_1).f2))).trans hx195_3; replace hx195_4 := (cell_far (p := ⟨gb194, 2, none⟩) (by first | (rw [add_block]; exact hn195_2) | (show (Addr.add _ _).block ≠ _; rw [add_block]; exact hn195_2) | exact hn195_2) (.int .i64 ((rd_T24 l0 x5_1).f2))).trans hx195_4; replace hx195_0 := (cell_far (p := ⟨gb194, 3, none⟩) (by first | (rw [add_block]; exact hn195_3) | (show (Addr.add _ _).block ≠ _; rw [add_block]; exact hn195_3) | exact hn195_3) (.int .u64 ((rd_T24 l0 x5_1).f3))).trans hx195_0; replace hx195_1 := (cell_far (p := ⟨gb194, 3, none⟩) (by first | (rw [add_block]; exact hn195_3) | (show (Addr.add _ _).block ≠ _; rw [add_block]; exact hn195_3) | exact hn195_3) (.int .u64 ((rd_T24 l0 x5_1).f3))).trans hx195_1; replace hx195_2 := (cell_far (p := ⟨gb194, 3, none⟩) (by first | (rw [add_block]; exact hn195_3) | (show (Addr.add _ _).block ≠ _; rw [add_block]; exact hn195_3) | exact hn195_3) (.int .u64 ((rd_T24 l0 x5_1).f3))).trans hx195_2; replace hx195_3 := (cell_far (p := ⟨gb194, 3, none⟩) (by first | (rw [add_block]; exact hn195_3) | (show (Addr.add _ _).block ≠ _; rw [add_block]; exact hn195_3) | exact hn195_3) (.int .u64 ((rd_T24 l0 x5_1).f3))).trans hx195_3; replace hx195_4 := (cell_far (p := ⟨gb194, 3, none⟩) (by first | (rw [add_block]; exact hn195_3) | (show (Addr.add _ _).block ≠ _; rw [add_block]; exact hn195_3) | exact hn195_3) (.int .u64 ((rd_T24 l0 x5_1).f3))).trans hx195_4; replace hx195_0 := (cell_far (p := ⟨gb194, 4, none⟩) (by first | (rw [add_block]; exact hn195_4) | (show (Addr.add _ _).block ≠ _; rw [add_block]; exact hn195_4) | exact hn195_4) (.string ((rd_T24 l0 x5_1).f4))).trans hx195_0; replace hx195_1 := (cell_far (p := ⟨gb194, 4, none⟩) (by first | (rw [add_block]; exact hn195_4) | (show (Addr.add _ _).block ≠ _; rw [add_block]; exact hn195_4) | exact hn195_4) (.string ((rd_T24 l0 x5_1).f4))).trans hx195_1; replace hx195_2 := (cell_far (p := ⟨gb194, 4, none⟩) (by first | (rw [add_block]; exact hn195_4) | (show (Addr.add _ _).block ≠ _; rw [add_block]; exact hn195_4) | exact hn195_4) (.string ((rd_T24 l0 x5_1).f4))).trans hx195_2; replace hx195_3 := (cell_far (p := ⟨gb194, 4, none⟩) (by first | (rw [add_block]; exact hn195_4) | (show (Addr.add _ _).block ≠ _; rw [add_block]; exact hn195_4) | exact hn195_4) (.string ((rd_T24 l0 x5_1).f4))).trans hx195_3; replace hx195_4 := (cell_far (p := ⟨gb194, 4, none⟩) (by first | (rw [add_block]; exact hn195_4) | (show (Addr.add _ _).block ≠ _; rw [add_block]; exact hn195_4) | exact hn195_4) (.string ((rd_T24 l0 x5_1).f4))).trans hx195_4; clear hn195_0; clear hn195_1; clear hn195_2; clear hn195_3; clear hn195_4; replace p195 := eq_true p195; replace q195 := eq_true q195) | ((with_reducible refine gate_dst (N := 7) rfl ?_); refine box_event ?hg (N := 7) ?hd (cs := #[.int .i64 0, .int .i64 0, .int .i64 0, .int .u64 0, .string (⟨#[]⟩ : ByteArray)]) (t := 26) ?hr ?_; (case hd => rfl); (case hg => rfl); (case hr => first | (go_simp; done) | (go_simp; rfl)); intro gb196 hg w32 hbox hb; have n0_ := Aside0.mk (blk_below (g := gb194) (o := .cells #[.int .i64 ((rd_T24 l0 x5_1).f0), .int .i64 ((rd_T24 l0 x5_1).f1), .int .i64 ((rd_T24 l0 x5_1).f2), .int .u64 ((rd_T24 l0 x5_1).f3), .string ((rd_T24 l0 x5_1).f4)] 24 (0, 0)) (by (with_reducible repeat (first | refine blk_drewN ?_ _ | refine blk_drew ?_ | refine blk_alloc ?_ _)); refine blk_put (cs := #[.int .i64 ((rd_T24 l0 x5_1).f0), .int .i64 ((rd_T24 l0 x5_1).f1), .int .i64 ((rd_T24 l0 x5_1).f2), .int .u64 ((rd_T24 l0 x5_1).f3), .string (⟨#[]⟩ : ByteArray)]) ?_ 4 _ rfl; (with_reducible repeat (first | refine blk_drewN ?_ _ | refine blk_drew ?_ | refine blk_alloc ?_ _)); refine blk_put (cs := #[.int .i64 ((rd_T24 l0 x5_1).f0), .int .i64 ((rd_T24 l0 x5_1).f1), .int .i64 ((rd_T24 l0 x5_1).f2), .int .u64 0, .string (⟨#[]⟩ : ByteArray)]) ?_ 3 _ rfl; (with_reducible repeat (first | refine blk_drewN ?_ _ | refine blk_drew ?_ | refine blk_alloc ?_ _)); refine blk_put (cs := #[.int .i64 ((rd_T24 l0 x5_1).f0), .int .i64 ((rd_T24 l0 x5_1).f1), .int .i64 0, .int .u64 0, .string (⟨#[]⟩ : ByteArray)]) ?_ 2 _ rfl; (with_reducible repeat (first | refine blk_drewN ?_ _ | refine blk_drew ?_ | refine blk_alloc ?_ _)); refine blk_put (cs := #[.int .i64 ((rd_T24 l0 x5_1).f0), .int .i64 0, .int .i64 0, .int .u64 0, .string (⟨#[]⟩ : ByteArray)]) ?_ 1 _ rfl; (with_reducible repeat (first | refine blk_drewN ?_ _ | refine blk_drew ?_ | refine blk_alloc ?_ _)); refine blk_put (cs := #[.int .i64 0, .int .i64 0, .int .i64 0, .int .u64 0, .string (⟨#[]⟩ : ByteArray)]) ?_ 0 _ rfl; (with_reducible repeat (first | refine blk_drewN ?_ _ | refine blk_drew ?_ | refine blk_alloc ?_ _)); exact BK194.out) hb); have n1_ := Aside0.mk (below_step (by repeat (first | (with_reducible first | exact HB.out | apply below_alloc | apply pw_below_drewN | apply below_drew1 | refine below_set ?_ GE194.out) | exact HB.out)) hb); have n2_ := Aside0.mk (hbox); have n3_ := Aside0.mk ((by rw [hg]; exact (below_size (by repeat (first | (with_reducible first | exact HB.out | apply below_alloc | apply pw_below_drewN | apply below_drew1 | refine below_set ?_ GE194.out) | exact HB.out))) : w.heap.size ≤ gb196)); have n4_ := Aside0.mk ((by rw [hg]; exact (below_size (by repeat (first | (with_reducible first | exact HB.out | apply below_alloc | apply pw_below_drewN | apply below_drew1 | refine below_set ?_ GE194.out) | exact HB.out))) : w.heap.size ≤ gb196)); have n5_ := Aside0.mk ((by rw [hg]; exact Nat.ne_of_lt (blk_lt (g := gb194) (o := .cells #[.int .i64 ((rd_T24 l0 x5_1).f0), .int .i64 ((rd_T24 l0 x5_1).f1), .int .i64 ((rd_T24 l0 x5_1).f2), .int .u64 ((rd_T24 l0 x5_1).f3), .string ((rd_T24 l0 x5_1).f4)] 24 (0, 0)) (by (with_reducible repeat (first | refine blk_drewN ?_ _ | refine blk_drew ?_ | refine blk_alloc ?_ _)); refine blk_put (cs := #[.int .i64 ((rd_T24 l0 x5_1).f0), .int .i64 ((rd_T24 l0 x5_1).f1), .int .i64 ((rd_T24 l0 x5_1).f2), .int .u64 ((rd_T24 l0 x5_1).f3), .string (⟨#[]⟩ : ByteArray)]) ?_ 4 _ rfl; (with_reducible repeat (first | refine blk_drewN ?_ _ | refine blk_drew ?_ | refine blk_alloc ?_ _)); refine blk_put (cs := #[.int .i64 ((rd_T24 l0 x5_1).f0), .int .i64 ((rd_T24 l0 x5_1).f1), .int .i64 ((rd_T24 l0 x5_1).f2), .int .u64 0, .string (⟨#[]⟩ : ByteArray)]) ?_ 3 _ rfl; (with_reducible repeat (first | refine blk_drewN ?_ _ | refine blk_drew ?_ | refine blk_alloc ?_ _)); refine blk_put (cs := #[.int .i64 ((rd_T24 l0 x5_1).f0), .int .i64 ((rd_T24 l0 x5_1).f1), .int .i64 0, .int .u64 0, .string (⟨#[]⟩ : ByteArray)]) ?_ 2 _ rfl; (with_reducible repeat (first | refine blk_drewN ?_ _ | refine blk_drew ?_ | refine blk_alloc ?_ _)); refine blk_put (cs := #[.int .i64 ((rd_T24 l0 x5_1).f0), .int .i64 0, .int .i64 0, .int .u64 0, .string (⟨#[]⟩ : ByteArray)]) ?_ 1 _ rfl; (with_reducible repeat (first | refine blk_drewN ?_ _ | refine blk_drew ?_ | refine blk_alloc ?_ _)); refine blk_put (cs := #[.int .i64 0, .int .i64 0, .int .i64 0, .int .u64 0, .string (⟨#[]⟩ : ByteArray)]) ?_ 0 _ rfl; (with_reducible repeat (first | refine blk_drewN ?_ _ | refine blk_drew ?_ | refine blk_alloc ?_ _)); exact BK194.out)) : gb194 ≠ gb196)); have n6_ := Aside0.mk ((by rw [hg]; exact Nat.ne_of_gt (blk_lt (g := gb194) (o := .cells #[.int .i64 ((rd_T24 l0 x5_1).f0), .int .i64 ((rd_T24 l0 x5_1).f1), .int .i64 ((rd_T24 l0 x5_1).f2), .int .u64 ((rd_T24 l0 x5_1).f3), .string ((rd_T24 l0 x5_1).f4)] 24 (0, 0)) (by (with_reducible repeat (first | refine blk_drewN ?_ _ | refine blk_drew ?_ | refine blk_alloc ?_ _)); refine blk_put (cs := #[.int .i64 ((rd_T24 l0 x5_1).f0), .int .i64 ((rd_T24 l0 x5_1).f1), .int .i64 ((rd_T24 l0 x5_1).f2), .int .u64 ((rd_T24 l0 x5_1).f3), .string (⟨#[]⟩ : ByteArray)]) ?_ 4 _ rfl; (with_reducible repeat (first | refine blk_drewN ?_ _ | refine blk_drew ?_ | refine blk_alloc ?_ _)); refine blk_put (cs := #[.int .i64 ((rd_T24 l0 x5_1).f0), .int .i64 ((rd_T24 l0 x5_1).f1), .int .i64 ((rd_T24 l0 x5_1).f2), .int .u64 0, .string (⟨#[]⟩ : ByteArray)]) ?_ 3 _ rfl; (with_reducible repeat (first | refine blk_drewN ?_ _ | refine blk_drew ?_ | refine blk_alloc ?_ _)); refine blk_put (cs := #[.int .i64 ((rd_T24 l0 x5_1).f0), .int .i64 ((rd_T24 l0 x5_1).f1), .int .i64 0, .int .u64 0, .string (⟨#[]⟩ : ByteArray)]) ?_ 2 _ rfl; (with_reducible repeat (first | refine blk_drewN ?_ _ | refine blk_drew ?_ | refine blk_alloc ?_ _)); refine blk_put (cs := #[.int .i64 ((rd_T24 l0 x5_1).f0), .int .i64 0, .int .i64 0, .int .u64 0, .string (⟨#[]⟩ : ByteArray)]) ?_ 1 _ rfl; (with_reducible repeat (first | refine blk_drewN ?_ _ | refine blk_drew ?_ | refine blk_alloc ?_ _)); refine blk_put (cs := #[.int .i64 0, .int .i64 0, .int .i64 0, .int .u64 0, .string (⟨#[]⟩ : ByteArray)]) ?_ 0 _ rfl; (with_reducible repeat (first | refine blk_drewN ?_ _ | refine blk_drew ?_ | refine blk_alloc ?_ _)); exact BK194.out)) : gb196 ≠ gb194)); clear BK194; clear HB; have BK194 := n0_; have HB := n1_; have BK196 := n2_; have GW196 := n3_; have GE196 := n4_; have NB194_196 := n5_; have NB196_194 := n6_; clear n0_ n1_ n2_ n3_ n4_ n5_ n6_; clear hb hbox hg; have hnb33 := NB196_194.out; have hnc33 := NB194_196.out; have hcz34_0 : w32.cell? ⟨gb196, 0, none⟩ = some (.int .i64 0) := (blk_cell BK196.out 0).trans rfl; have hcz34_1 : w32.cell? ⟨gb196, 1, none⟩ = some (.int .i64 0) := (blk_cell BK196.out 1).trans rfl; have hcz34_2 : w32.cell? ⟨gb196, 2, none⟩ = some (.int .i64 0) := (blk_cell BK196.out 2).trans rfl; have hcz34_3 : w32.cell? ⟨gb196, 3, none⟩ = some (.int .u64 0) := (blk_cell BK196.out 3).trans rfl; have hcz34_4 : w32.cell? ⟨gb196, 4, none⟩ = some (.string (⟨#[]⟩ : ByteArray)) := (blk_cell BK196.out 4).trans rfl; have hfz34_0 := blk_frozen BK196.out 0; have hfz34_1 := blk_frozen BK196.out 1; have hfz34_2 := blk_frozen BK196.out 2; have hfz34_3 := blk_frozen BK196.out 3; have hfz34_4 := blk_frozen BK196.out 4; have hcz35_0 : w32.cell? ⟨gb194, 0, none⟩ = some (.int .i64 ((rd_T24 l0 x5_1).f0)) := (blk_cell BK194.out 0).trans rfl; have hcz35_1 : w32.cell? ⟨gb194, 1, none⟩ = some (.int .i64 ((rd_T24 l0 x5_1).f1)) := (blk_cell BK194.out 1).trans rfl; have hcz35_2 : w32.cell? ⟨gb194, 2, none⟩ = some (.int .i64 ((rd_T24 l0 x5_1).f2)) := (blk_cell BK194.out 2).trans rfl; have hcz35_3 : w32.cell? ⟨gb194, 3, none⟩ = some (.int .u64 ((rd_T24 l0 x5_1).f3)) := (blk_cell BK194.out 3).trans rfl; have hcz35_4 : w32.cell? ⟨gb194, 4, none⟩ = some (.string ((rd_T24 l0 x5_1).f4)) := (blk_cell BK194.out 4).trans rfl; have hfz35_0 := blk_frozen BK194.out 0; have hfz35_1 := blk_frozen BK194.out 1; have hfz35_2 := blk_frozen BK194.out 2; have hfz35_3 := blk_frozen BK194.out 3; have hfz35_4 := blk_frozen BK194.out 4))
          go_ret
          exact ⟨by first | rfl | (simp [errW_none, errW_some] <;> rfl) | (simp [*, errW_none, errW_some] <;> rfl), by repeat (first | (with_reducible first | exact HB.out | apply below_alloc | apply pw_below_drewN | apply below_drew1 | refine below_set ?_ GE194.out | refine below_set ?_ GE196.out) | exact HB.out)⟩
        ·rw [if_neg c8] at H
         have c8b0 : (((rd_T24 l0 x5_1).f1) == ((rd_T26 l1 x5_1).f1)) = false := beq_eq_false_iff_ne.mpr c8
         have c8b1 : (((rd_T24 l0 x5_1).f1) != ((rd_T26 l1 x5_1).f1)) = true := bne_iff_ne.mpr c8
         obtain rfl := Option.some.inj H
         have p193 : 0 ≤ (x5_1 : Int) := of_decide_eq_true (by first | (with_reducible assumption) | assumption)
         have q193 : x5_1 < (l0.length : Int) := of_decide_eq_true (by first | (with_reducible assumption) | assumption)
         obtain ⟨ad193, e193, hx193_0, hx193_1, hx193_2, hx193_3, hx193_4⟩ := at_T24 HR0.out x5_1 p193 q193
         cases e193
         replace hx193_0 := (HB.out.cell (World.block_lt_of_cell? w _ hx193_0)).trans hx193_0
         replace hx193_1 := (HB.out.cell (World.block_lt_of_cell? w _ hx193_1)).trans hx193_1
         replace hx193_2 := (HB.out.cell (World.block_lt_of_cell? w _ hx193_2)).trans hx193_2
         replace hx193_3 := (HB.out.cell (World.block_lt_of_cell? w _ hx193_3)).trans hx193_3
         replace hx193_4 := (HB.out.cell (World.block_lt_of_cell? w _ hx193_4)).trans hx193_4
         replace p193 := eq_true p193
         replace q193 := eq_true q193
         go_wp2_with (first | ((with_reducible refine gate_dst (N := 6) rfl ?_); refine box_event ?hg (N := 6) ?hd (cs := #[.int .i64 0, .int .i64 0, .int .i64 0, .int .u64 0, .string (⟨#[]⟩ : ByteArray)]) (t := 24) ?hr ?_; (case hd => rfl); (case hg => rfl); (case hr => first | (go_simp; done) | (go_simp; rfl)); intro gb194 hg w36 hbox hb; have n0_ := Aside0.mk (below_step (by repeat (first | (with_reducible first | exact HB.out | apply below_alloc | apply pw_below_drewN | apply below_drew1) | exact HB.out)) hb); have n1_ := Aside0.mk (hbox); have n2_ := Aside0.mk ((by rw [hg]; exact (below_size (by repeat (first | (with_reducible first | exact HB.out | apply below_alloc | apply pw_below_drewN | apply below_drew1) | exact HB.out))) : w.heap.size ≤ gb194)); have n3_ := Aside0.mk ((by rw [hg]; exact (below_size (by repeat (first | (with_reducible first | exact HB.out | apply below_alloc | apply pw_below_drewN | apply below_drew1) | exact HB.out))) : w.heap.size ≤ gb194)); clear HB; have HB := n0_; have BK194 := n1_; have GW194 := n2_; have GE194 := n3_; clear n0_ n1_ n2_ n3_; clear hb hbox hg; have hcz37_0 : w36.cell? ⟨gb194, 0, none⟩ = some (.int .i64 0) := (blk_cell BK194.out 0).trans rfl; have hcz37_1 : w36.cell? ⟨gb194, 1, none⟩ = some (.int .i64 0) := (blk_cell BK194.out 1).trans rfl; have hcz37_2 : w36.cell? ⟨gb194, 2, none⟩ = some (.int .i64 0) := (blk_cell BK194.out 2).trans rfl; have hcz37_3 : w36.cell? ⟨gb194, 3, none⟩ = some (.int .u64 0) := (blk_cell BK194.out 3).trans rfl; have hcz37_4 : w36.cell? ⟨gb194, 4, none⟩ = some (.string (⟨#[]⟩ : ByteArray)) := (blk_cell BK194.out 4).trans rfl; have hfz37_0 := blk_frozen BK194.out 0; have hfz37_1 := blk_frozen BK194.out 1; have hfz37_2 := blk_frozen BK194.out 2; have hfz37_3 := blk_frozen BK194.out 3; have hfz37_4 := blk_frozen BK194.out 4; have p195 : 0 ≤ (x5_1 : Int) := of_decide_eq_true (by first | (with_reducible assumption) | assumption); have q195 : x5_1 < (l1.length : Int) := of_decide_eq_true (by first | (with_reducible assumption) | assumption); obtain ⟨ad195, e195, hx195_0, hx195_1, hx195_2, hx195_3, hx195_4⟩ := at_T26 HR1.out x5_1 p195 q195; cases e195; have hn195_0 : ad195.block ≠ gb194 := Nat.ne_of_lt (Nat.lt_of_lt_of_le (by have := World.block_lt_of_cell? _ _ hx195_0; first | rwa [add_block] at this | exact this) GW194.out); have hn195_1 : ad195.block ≠ gb194 := Nat.ne_of_lt (Nat.lt_of_lt_of_le (by have := World.block_lt_of_cell? _ _ hx195_0; first | rwa [add_block] at this | exact this) GW194.out); have hn195_2 : ad195.block ≠ gb194 := Nat.ne_of_lt (Nat.lt_of_lt_of_le (by have := World.block_lt_of_cell? _ _ hx195_0; first | rwa [add_block] at this | exact this) GW194.out); have hn195_3 : ad195.block ≠ gb194 := Nat.ne_of_lt (Nat.lt_of_lt_of_le (by have := World.block_lt_of_cell? _ _ hx195_0; first | rwa [add_block] at this | exact this) GW194.out); have hn195_4 : ad195.block ≠ gb194 := Nat.ne_of_lt (Nat.lt_of_lt_of_le (by have := World.block_lt_of_cell? _ _ hx195_0; first | rwa [add_block] at this | exact this) GW194.out); replace hx195_0 := (HB.out.cell (World.block_lt_of_cell? w _ hx195_0)).trans hx195_0; replace hx195_1 := (HB.out.cell (World.block_lt_of_cell? w _ hx195_1)).trans hx195_1; replace hx195_2 := (HB.out.cell (World.block_lt_of_cell? w _ hx195_2)).trans hx195_2; replace hx195_3 := (HB.out.cell (World.block_lt_of_cell? w _ hx195_3)).trans hx195_3; replace hx195_4 := (HB.out.cell (World.block_lt_of_cell? w _ hx195_4)).trans hx195_4; replace hx195_0 := (cell_far (p := ⟨gb194, 0, none⟩) (by first | (rw [add_block]; exact hn195_0) | (show (Addr.add _ _).block ≠ _; rw [add_block]; exact hn195_0) | exact hn195_0) (.int .i64 ((rd_T24 l0 x5_1).f0))).trans hx195_0; replace hx195_1 := (cell_far (p := ⟨gb194, 0, none⟩) (by first | (rw [add_block]; exact hn195_0) | (show (Addr.add _ _).block ≠ _; rw [add_block]; exact hn195_0) | exact hn195_0) (.int .i64 ((rd_T24 l0 x5_1).f0))).trans hx195_1; replace hx195_2 := (cell_far (p := ⟨gb194, 0, none⟩) (by first | (rw [add_block]; exact hn195_0) | (show (Addr.add _ _).block ≠ _; rw [add_block]; exact hn195_0) | exact hn195_0) (.int .i64 ((rd_T24 l0 x5_1).f0))).trans hx195_2; replace hx195_3 := (cell_far (p := ⟨gb194, 0, none⟩) (by first | (rw [add_block]; exact hn195_0) | (show (Addr.add _ _).block ≠ _; rw [add_block]; exact hn195_0) | exact hn195_0) (.int .i64 ((rd_T24 l0 x5_1).f0))).trans hx195_3; replace hx195_4 := (cell_far (p := ⟨gb194, 0, none⟩) (by first | (rw [add_block]; exact hn195_0) | (show (Addr.add _ _).block ≠ _; rw [add_block]; exact hn195_0) | exact hn195_0) (.int .i64 ((rd_T24 l0 x5_1).f0))).trans hx195_4; replace hx195_0 := (cell_far (p := ⟨gb194, 1, none⟩) (by first | (rw [add_block]; exact hn195_1) | (show (Addr.add _ _).block ≠ _; rw [add_block]; exact hn195_1) | exact hn195_1) (.int .i64 ((rd_T24 l0 x5_1).f1))).trans hx195_0; replace hx195_1 := (cell_far (p := ⟨gb194, 1, none⟩) (by first | (rw [add_block]; exact hn195_1) | (show (Addr.add _ _).block ≠ _; rw [add_block]; exact hn195_1) | exact hn195_1) (.int .i64 ((rd_T24 l0 x5_1).f1))).trans hx195_1; replace hx195_2 := (cell_far (p := ⟨gb194, 1, none⟩) (by first | (rw [add_block]; exact hn195_1) | (show (Addr.add _ _).block ≠ _; rw [add_block]; exact hn195_1) | exact hn195_1) (.int .i64 ((rd_T24 l0 x5_1).f1))).trans hx195_2; replace hx195_3 := (cell_far (p := ⟨gb194, 1, none⟩) (by first | (rw [add_block]; exact hn195_1) | (show (Addr.add _ _).block ≠ _; rw [add_block]; exact hn195_1) | exact hn195_1) (.int .i64 ((rd_T24 l0 x5_1).f1))).trans hx195_3; replace hx195_4 := (cell_far (p := ⟨gb194, 1, none⟩) (by first | (rw [add_block]; exact hn195_1) | (show (Addr.add _ _).block ≠ _; rw [add_block]; exact hn195_1) | exact hn195_1) (.int .i64 ((rd_T24 l0 x5_1).f1))).trans hx195_4; replace hx195_0 := (cell_far (p := ⟨gb194, 2, none⟩) (by first | (rw [add_block]; exact hn195_2) | (show (Addr.add _ _).block ≠ _; rw [add_block]; exact hn195_2) | exact hn195_2) (.int .i64 ((rd_T24 l0 x5_1).f2))).trans hx195_0; replace hx195_1 := (cell_far (p := ⟨gb194, 2, none⟩) (by first | (rw [add_block]; exact hn195_2) | (show (Addr.add _ _).block ≠ _; rw [add_block]; exact hn195_2) | exact hn195_2) (.int .i64 ((rd_T24 l0 x5_1).f2))).trans hx195_1; replace hx195_2 := (cell_far (p := ⟨gb194, 2, none⟩) (by first | (rw [add_block]; exact hn195_2) | (show (Addr.add _ _).block ≠ _; rw [add_block]; exact hn195_2) | exact hn195_2) (.int .i64 ((rd_T24 l0 x5_1).f2))).trans hx195_2; replace hx195_3 := (cell_far (p := ⟨gb194, 2, none⟩) (by first | (rw [add_block]; exact hn195_2) | (show (Addr.add _ _).block ≠ _; rw [add_block]; exact hn195_2) | exact hn195_2) (.int .i64 ((rd_T24 l0 x5_1).f2))).trans hx195_3; replace hx195_4 := (cell_far (p := ⟨gb194, 2, none⟩) (by first | (rw [add_block]; exact hn195_2) | (show (Addr.add _ _).block ≠ _; rw [add_block]; exact hn195_2) | exact hn195_2) (.int .i64 ((rd_T24 l0 x5_1).f2))).trans hx195_4; replace hx195_0 := (cell_far (p := ⟨gb194, 3, none⟩) (by first | (rw [add_block]; exact hn195_3) | (show (Addr.add _ _).block ≠ _; rw [add_block]; exact hn195_3) | exact hn195_3) (.int .u64 ((rd_T24 l0 x5_1).f3))).trans hx195_0; replace hx195_1 := (cell_far (p := ⟨gb194, 3, none⟩) (by first | (rw [add_block]; exact hn195_3) | (show (Addr.add _ _).block ≠ _; rw [add_block]; exact hn195_3) | exact hn195_3) (.int .u64 ((rd_T24 l0 x5_1).f3))).trans hx195_1; replace hx195_2 := (cell_far (p := ⟨gb194, 3, none⟩) (by first | (rw [add_block]; exact hn195_3) | (show (Addr.add _ _).block ≠ _; rw [add_block]; exact hn195_3) | exact hn195_3) (.int .u64 ((rd_T24 l0 x5_1).f3))).trans hx195_2; replace hx195_3 := (cell_far (p := ⟨gb194, 3, none⟩) (by first | (rw [add_block]; exact hn195_3) | (show (Addr.add _ _).block ≠ _; rw [add_block]; exact hn195_3) | exact hn195_3) (.int .u64 ((rd_T24 l0 x5_1).f3))).trans hx195_3; replace hx195_4 := (cell_far (p := ⟨gb194, 3, none⟩) (by first | (rw [add_block]; exact hn195_3) | (show (Addr.add _ _).block ≠ _; rw [add_block]; exact hn195_3) | exact hn195_3) (.int .u64 ((rd_T24 l0 x5_1).f3))).trans hx195_4; replace hx195_0 := (cell_far (p := ⟨gb194, 4, none⟩) (by first | (rw [add_block]; exact hn195_4) | (show (Addr.add _ _).block ≠ _; rw [add_block]; exact hn195_4) | exact hn195_4) (.string ((rd_T24 l0 x5_1).f4))).trans hx195_0; replace hx195_1 := (cell_far (p := ⟨gb194, 4, none⟩) (by first | (rw [add_block]; exact hn195_4) | (show (Addr.add _ _).block ≠ _; rw [add_block]; exact hn195_4) | exact hn195_4) (.string ((rd_T24 l0 x5_1).f4))).trans hx195_1; replace hx195_2 := (cell_far (p := ⟨gb194, 4, none⟩) (by first | (rw [add_block]; exact hn195_4) | (show (Addr.add _ _).block ≠ _; rw [add_block]; exact hn195_4) | exact hn195_4) (.string ((rd_T24 l0 x5_1).f4))).trans hx195_2; replace hx195_3 := (cell_far (p := ⟨gb194, 4, none⟩) (by first | (rw [add_block]; exact hn195_4) | (show (Addr.add _ _).block ≠ _; rw [add_block]; exact hn195_4) | exact hn195_4) (.string ((rd_T24 l0 x5_1).f4))).trans hx195_3; replace hx195_4 := (cell_far (p := ⟨gb194, 4, none⟩) (by first | (rw [add_block]; exact hn195_4) | (show (Addr.add _ _).block ≠ _; rw [add_block]; exact hn195_4) | exact hn195_4) (.string ((rd_T24 l0 x5_1).f4))).trans hx195_4; clear hn195_0; clear hn195_1; clear hn195_2; clear hn195_3; clear hn195_4; replace p195 := eq_true p195; replace q195 := eq_true q195) | ((with_reducible refine gate_dst (N := 7) rfl ?_); refine box_event ?hg (N := 7) ?hd (cs := #[.int .i64 0, .int .i64 0, .int .i64 0, .int .u64 0, .string (⟨#[]⟩ : ByteArray)]) (t := 26) ?hr ?_; (case hd => rfl); (case hg => rfl); (case hr => first | (go_simp; done) | (go_simp; rfl)); intro gb196 hg w38 hbox hb; have n0_ := Aside0.mk (blk_below (g := gb194) (o := .cells #[.int .i64 ((rd_T24 l0 x5_1).f0), .int .i64 ((rd_T24 l0 x5_1).f1), .int .i64 ((rd_T24 l0 x5_1).f2), .int .u64 ((rd_T24 l0 x5_1).f3), .string ((rd_T24 l0 x5_1).f4)] 24 (0, 0)) (by (with_reducible repeat (first | refine blk_drewN ?_ _ | refine blk_drew ?_ | refine blk_alloc ?_ _)); refine blk_put (cs := #[.int .i64 ((rd_T24 l0 x5_1).f0), .int .i64 ((rd_T24 l0 x5_1).f1), .int .i64 ((rd_T24 l0 x5_1).f2), .int .u64 ((rd_T24 l0 x5_1).f3), .string (⟨#[]⟩ : ByteArray)]) ?_ 4 _ rfl; (with_reducible repeat (first | refine blk_drewN ?_ _ | refine blk_drew ?_ | refine blk_alloc ?_ _)); refine blk_put (cs := #[.int .i64 ((rd_T24 l0 x5_1).f0), .int .i64 ((rd_T24 l0 x5_1).f1), .int .i64 ((rd_T24 l0 x5_1).f2), .int .u64 0, .string (⟨#[]⟩ : ByteArray)]) ?_ 3 _ rfl; (with_reducible repeat (first | refine blk_drewN ?_ _ | refine blk_drew ?_ | refine blk_alloc ?_ _)); refine blk_put (cs := #[.int .i64 ((rd_T24 l0 x5_1).f0), .int .i64 ((rd_T24 l0 x5_1).f1), .int .i64 0, .int .u64 0, .string (⟨#[]⟩ : ByteArray)]) ?_ 2 _ rfl; (with_reducible repeat (first | refine blk_drewN ?_ _ | refine blk_drew ?_ | refine blk_alloc ?_ _)); refine blk_put (cs := #[.int .i64 ((rd_T24 l0 x5_1).f0), .int .i64 0, .int .i64 0, .int .u64 0, .string (⟨#[]⟩ : ByteArray)]) ?_ 1 _ rfl; (with_reducible repeat (first | refine blk_drewN ?_ _ | refine blk_drew ?_ | refine blk_alloc ?_ _)); refine blk_put (cs := #[.int .i64 0, .int .i64 0, .int .i64 0, .int .u64 0, .string (⟨#[]⟩ : ByteArray)]) ?_ 0 _ rfl; (with_reducible repeat (first | refine blk_drewN ?_ _ | refine blk_drew ?_ | refine blk_alloc ?_ _)); exact BK194.out) hb); have n1_ := Aside0.mk (below_step (by repeat (first | (with_reducible first | exact HB.out | apply below_alloc | apply pw_below_drewN | apply below_drew1 | refine below_set ?_ GE194.out) | exact HB.out)) hb); have n2_ := Aside0.mk (hbox); have n3_ := Aside0.mk ((by rw [hg]; exact (below_size (by repeat (first | (with_reducible first | exact HB.out | apply below_alloc | apply pw_below_drewN | apply below_drew1 | refine below_set ?_ GE194.out) | exact HB.out))) : w.heap.size ≤ gb196)); have n4_ := Aside0.mk ((by rw [hg]; exact (below_size (by repeat (first | (with_reducible first | exact HB.out | apply below_alloc | apply pw_below_drewN | apply below_drew1 | refine below_set ?_ GE194.out) | exact HB.out))) : w.heap.size ≤ gb196)); have n5_ := Aside0.mk ((by rw [hg]; exact Nat.ne_of_lt (blk_lt (g := gb194) (o := .cells #[.int .i64 ((rd_T24 l0 x5_1).f0), .int .i64 ((rd_T24 l0 x5_1).f1), .int .i64 ((rd_T24 l0 x5_1).f2), .int .u64 ((rd_T24 l0 x5_1).f3), .string ((rd_T24 l0 x5_1).f4)] 24 (0, 0)) (by (with_reducible repeat (first | refine blk_drewN ?_ _ | refine blk_drew ?_ | refine blk_alloc ?_ _)); refine blk_put (cs := #[.int .i64 ((rd_T24 l0 x5_1).f0), .int .i64 ((rd_T24 l0 x5_1).f1), .int .i64 ((rd_T24 l0 x5_1).f2), .int .u64 ((rd_T24 l0 x5_1).f3), .string (⟨#[]⟩ : ByteArray)]) ?_ 4 _ rfl; (with_reducible repeat (first | refine blk_drewN ?_ _ | refine blk_drew ?_ | refine blk_alloc ?_ _)); refine blk_put (cs := #[.int .i64 ((rd_T24 l0 x5_1).f0), .int .i64 ((rd_T24 l0 x5_1).f1), .int .i64 ((rd_T24 l0 x5_1).f2), .int .u64 0, .string (⟨#[]⟩ : ByteArray)]) ?_ 3 _ rfl; (with_reducible repeat (first | refine blk_drewN ?_ _ | refine blk_drew ?_ | refine blk_alloc ?_ _)); refine blk_put (cs := #[.int .i64 ((rd_T24 l0 x5_1).f0), .int .i64 ((rd_T24 l0 x5_1).f1), .int .i64 0, .int .u64 0, .string (⟨#[]⟩ : ByteArray)]) ?_ 2 _ rfl; (with_reducible repeat (first | refine blk_drewN ?_ _ | refine blk_drew ?_ | refine blk_alloc ?_ _)); refine blk_put (cs := #[.int .i64 ((rd_T24 l0 x5_1).f0), .int .i64 0, .int .i64 0, .int .u64 0, .string (⟨#[]⟩ : ByteArray)]) ?_ 1 _ rfl; (with_reducible repeat (first | refine blk_drewN ?_ _ | refine blk_drew ?_ | refine blk_alloc ?_ _)); refine blk_put (cs := #[.int .i64 0, .int .i64 0, .int .i64 0, .int .u64 0, .string (⟨#[]⟩ : ByteArray)]) ?_ 0 _ rfl; (with_reducible repeat (first | refine blk_drewN ?_ _ | refine blk_drew ?_ | refine blk_alloc ?_ _)); exact BK194.out)) : gb194 ≠ gb196)); have n6_ := Aside0.mk ((by rw [hg]; exact Nat.ne_of_gt (blk_lt (g := gb194) (o := .cells #[.int .i64 ((rd_T24 l0 x5_1).f0), .int .i64 ((rd_T24 l0 x5_1).f1), .int .i64 ((rd_T24 l0 x5_1).f2), .int .u64 ((rd_T24 l0 x5_1).f3), .string ((rd_T24 l0 x5_1).f4)] 24 (0, 0)) (by (with_reducible repeat (first | refine blk_drewN ?_ _ | refine blk_drew ?_ | refine blk_alloc ?_ _)); refine blk_put (cs := #[.int .i64 ((rd_T24 l0 x5_1).f0), .int .i64 ((rd_T24 l0 x5_1).f1), .int .i64 ((rd_T24 l0 x5_1).f2), .int .u64 ((rd_T24 l0 x5_1).f3), .string (⟨#[]⟩ : ByteArray)]) ?_ 4 _ rfl; (with_reducible repeat (first | refine blk_drewN ?_ _ | refine blk_drew ?_ | refine blk_alloc ?_ _)); refine blk_put (cs := #[.int .i64 ((rd_T24 l0 x5_1).f0), .int .i64 ((rd_T24 l0 x5_1).f1), .int .i64 ((rd_T24 l0 x5_1).f2), .int .u64 0, .string (⟨#[]⟩ : ByteArray)]) ?_ 3 _ rfl; (with_reducible repeat (first | refine blk_drewN ?_ _ | refine blk_drew ?_ | refine blk_alloc ?_ _)); refine blk_put (cs := #[.int .i64 ((rd_T24 l0 x5_1).f0), .int .i64 ((rd_T24 l0 x5_1).f1), .int .i64 0, .int .u64 0, .string (⟨#[]⟩ : ByteArray)]) ?_ 2 _ rfl; (with_reducible repeat (first | refine blk_drewN ?_ _ | refine blk_drew ?_ | refine blk_alloc ?_ _)); refine blk_put (cs := #[.int .i64 ((rd_T24 l0 x5_1).f0), .int .i64 0, .int .i64 0, .int .u64 0, .string (⟨#[]⟩ : ByteArray)]) ?_ 1 _ rfl; (with_reducible repeat (first | refine blk_drewN ?_ _ | refine blk_drew ?_ | refine blk_alloc ?_ _)); refine blk_put (cs := #[.int .i64 0, .int .i64 0, .int .i64 0, .int .u64 0, .string (⟨#[]⟩ : ByteArray)]) ?_ 0 _ rfl; (with_reducible repeat (first | refine blk_drewN ?_ _ | refine blk_drew ?_ | refine blk_alloc ?_ _)); exact BK194.out)) : gb196 ≠ gb194)); clear BK194; clear HB; have BK194 := n0_; have HB := n1_; have BK196 := n2_; have GW196 := n3_; have GE196 := n4_; have NB194_196 := n5_; have NB196_194 := n6_; clear n0_ n1_ n2_ n3_ n4_ n5_ n6_; clear hb hbox hg; have hnb39 := NB196_194.out; have hnc39 := NB194_196.out; have hcz40_0 : w38.cell? ⟨gb196, 0, none⟩ = some (.int .i64 0) := (blk_cell BK196.out 0).trans rfl; have hcz40_1 : w38.cell? ⟨gb196, 1, none⟩ = some (.int .i64 0) := (blk_cell BK196.out 1).trans rfl; have hcz40_2 : w38.cell? ⟨gb196, 2, none⟩ = some (.int .i64 0) := (blk_cell BK196.out 2).trans rfl; have hcz40_3 : w38.cell? ⟨gb196, 3, none⟩ = some (.int .u64 0) := (blk_cell BK196.out 3).trans rfl; have hcz40_4 : w38.cell? ⟨gb196, 4, none⟩ = some (.string (⟨#[]⟩ : ByteArray)) := (blk_cell BK196.out 4).trans rfl; have hfz40_0 := blk_frozen BK196.out 0; have hfz40_1 := blk_frozen BK196.out 1; have hfz40_2 := blk_frozen BK196.out 2; have hfz40_3 := blk_frozen BK196.out 3; have hfz40_4 := blk_frozen BK196.out 4; have hcz41_0 : w38.cell? ⟨gb194, 0, none⟩ = some (.int .i64 ((rd_T24 l0 x5_1).f0)) := (blk_cell BK194.out 0).trans rfl; have hcz41_1 : w38.cell? ⟨gb194, 1, none⟩ = some (.int .i64 ((rd_T24 l0 x5_1).f1)) := (blk_cell BK194.out 1).trans rfl; have hcz41_2 : w38.cell? ⟨gb194, 2, none⟩ = some (.int .i64 ((rd_T24 l0 x5_1).f2)) := (blk_cell BK194.out 2).trans rfl; have hcz41_3 : w38.cell? ⟨gb194, 3, none⟩ = some (.int .u64 ((rd_T24 l0 x5_1).f3)) := (blk_cell BK194.out 3).trans rfl; have hcz41_4 : w38.cell? ⟨gb194, 4, none⟩ = some (.string ((rd_T24 l0 x5_1).f4)) := (blk_cell BK194.out 4).trans rfl; have hfz41_0 := blk_frozen BK194.out 0; have hfz41_1 := blk_frozen BK194.out 1; have hfz41_2 := blk_frozen BK194.out 2; have hfz41_3 := blk_frozen BK194.out 3; have hfz41_4 := blk_frozen BK194.out 4))
         go_ret
         exact ⟨by first | rfl | (simp [errW_none, errW_some] <;> rfl) | (simp [*, errW_none, errW_some] <;> rfl), by repeat (first | (with_reducible first | exact HB.out | apply below_alloc | apply pw_below_drewN | apply below_drew1 | refine below_set ?_ GE194.out | refine below_set ?_ GE196.out) | exact HB.out)⟩
       ·rw [if_neg c7] at H
        have c7b0 : (((rd_T24 l0 x5_1).f0) == ((rd_T26 l1 x5_1).f0)) = false := beq_eq_false_iff_ne.mpr c7
        have c7b1 : (((rd_T24 l0 x5_1).f0) != ((rd_T26 l1 x5_1).f0)) = true := bne_iff_ne.mpr c7
        obtain rfl := Option.some.inj H
        have p193 : 0 ≤ (x5_1 : Int) := of_decide_eq_true (by first | (with_reducible assumption) | assumption)
        have q193 : x5_1 < (l0.length : Int) := of_decide_eq_true (by first | (with_reducible assumption) | assumption)
        obtain ⟨ad193, e193, hx193_0, hx193_1, hx193_2, hx193_3, hx193_4⟩ := at_T24 HR0.out x5_1 p193 q193
        cases e193
        replace hx193_0 := (HB.out.cell (World.block_lt_of_cell? w _ hx193_0)).trans hx193_0
        replace hx193_1 := (HB.out.cell (World.block_lt_of_cell? w _ hx193_1)).trans hx193_1
        replace hx193_2 := (HB.out.cell (World.block_lt_of_cell? w _ hx193_2)).trans hx193_2
        replace hx193_3 := (HB.out.cell (World.block_lt_of_cell? w _ hx193_3)).trans hx193_3
        replace hx193_4 := (HB.out.cell (World.block_lt_of_cell? w _ hx193_4)).trans hx193_4
        replace p193 := eq_true p193
        replace q193 := eq_true q193
        go_wp2_with (first | ((with_reducible refine gate_dst (N := 6) rfl ?_); refine box_event ?hg (N := 6) ?hd (cs := #[.int .i64 0, .int .i64 0, .int .i64 0, .int .u64 0, .string (⟨#[]⟩ : ByteArray)]) (t := 24) ?hr ?_; (case hd => rfl); (case hg => rfl); (case hr => first | (go_simp; done) | (go_simp; rfl)); intro gb194 hg w42 hbox hb; have n0_ := Aside0.mk (below_step (by repeat (first | (with_reducible first | exact HB.out | apply below_alloc | apply pw_below_drewN | apply below_drew1) | exact HB.out)) hb); have n1_ := Aside0.mk (hbox); have n2_ := Aside0.mk ((by rw [hg]; exact (below_size (by repeat (first | (with_reducible first | exact HB.out | apply below_alloc | apply pw_below_drewN | apply below_drew1) | exact HB.out))) : w.heap.size ≤ gb194)); have n3_ := Aside0.mk ((by rw [hg]; exact (below_size (by repeat (first | (with_reducible first | exact HB.out | apply below_alloc | apply pw_below_drewN | apply below_drew1) | exact HB.out))) : w.heap.size ≤ gb194)); clear HB; have HB := n0_; have BK194 := n1_; have GW194 := n2_; have GE194 := n3_; clear n0_ n1_ n2_ n3_; clear hb hbox hg; have hcz43_0 : w42.cell? ⟨gb194, 0, none⟩ = some (.int .i64 0) := (blk_cell BK194.out 0).trans rfl; have hcz43_1 : w42.cell? ⟨gb194, 1, none⟩ = some (.int .i64 0) := (blk_cell BK194.out 1).trans rfl; have hcz43_2 : w42.cell? ⟨gb194, 2, none⟩ = some (.int .i64 0) := (blk_cell BK194.out 2).trans rfl; have hcz43_3 : w42.cell? ⟨gb194, 3, none⟩ = some (.int .u64 0) := (blk_cell BK194.out 3).trans rfl; have hcz43_4 : w42.cell? ⟨gb194, 4, none⟩ = some (.string (⟨#[]⟩ : ByteArray)) := (blk_cell BK194.out 4).trans rfl; have hfz43_0 := blk_frozen BK194.out 0; have hfz43_1 := blk_frozen BK194.out 1; have hfz43_2 := blk_frozen BK194.out 2; have hfz43_3 := blk_frozen BK194.out 3; have hfz43_4 := blk_frozen BK194.out 4; have p195 : 0 ≤ (x5_1 : Int) := of_decide_eq_true (by first | (with_reducible assumption) | assumption); have q195 : x5_1 < (l1.length : Int) := of_decide_eq_true (by first | (with_reducible assumption) | assumption); obtain ⟨ad195, e195, hx195_0, hx195_1, hx195_2, hx195_3, hx195_4⟩ := at_T26 HR1.out x5_1 p195 q195; cases e195; have hn195_0 : ad195.block ≠ gb194 := Nat.ne_of_lt (Nat.lt_of_lt_of_le (by have := World.block_lt_of_cell? _ _ hx195_0; first | rwa [add_block] at this | exact this) GW194.out); have hn195_1 : ad195.block ≠ gb194 := Nat.ne_of_lt (Nat.lt_of_lt_of_le (by have := World.block_lt_of_cell? _ _ hx195_0; first | rwa [add_block] at this | exact this) GW194.out); have hn195_2 : ad195.block ≠ gb194 := Nat.ne_of_lt (Nat.lt_of_lt_of_le (by have := World.block_lt_of_cell? _ _ hx195_0; first | rwa [add_block] at this | exact this) GW194.out); have hn195_3 : ad195.block ≠ gb194 := Nat.ne_of_lt (Nat.lt_of_lt_of_le (by have := World.block_lt_of_cell? _ _ hx195_0; first | rwa [add_block] at this | exact this) GW194.out); have hn195_4 : ad195.block ≠ gb194 := Nat.ne_of_lt (Nat.lt_of_lt_of_le (by have := World.block_lt_of_cell? _ _ hx195_0; first | rwa [add_block] at this | exact this) GW194.out); replace hx195_0 := (HB.out.cell (World.block_lt_of_cell? w _ hx195_0)).trans hx195_0; replace hx195_1 := (HB.out.cell (World.block_lt_of_cell? w _ hx195_1)).trans hx195_1; replace hx195_2 := (HB.out.cell (World.block_lt_of_cell? w _ hx195_2)).trans hx195_2; replace hx195_3 := (HB.out.cell (World.block_lt_of_cell? w _ hx195_3)).trans hx195_3; replace hx195_4 := (HB.out.cell (World.block_lt_of_cell? w _ hx195_4)).trans hx195_4; replace hx195_0 := (cell_far (p := ⟨gb194, 0, none⟩) (by first | (rw [add_block]; exact hn195_0) | (show (Addr.add _ _).block ≠ _; rw [add_block]; exact hn195_0) | exact hn195_0) (.int .i64 ((rd_T24 l0 x5_1).f0))).trans hx195_0; replace hx195_1 := (cell_far (p := ⟨gb194, 0, none⟩) (by first | (rw [add_block]; exact hn195_0) | (show (Addr.add _ _).block ≠ _; rw [add_block]; exact hn195_0) | exact hn195_0) (.int .i64 ((rd_T24 l0 x5_1).f0))).trans hx195_1; replace hx195_2 := (cell_far (p := ⟨gb194, 0, none⟩) (by first | (rw [add_block]; exact hn195_0) | (show (Addr.add _ _).block ≠ _; rw [add_block]; exact hn195_0) | exact hn195_0) (.int .i64 ((rd_T24 l0 x5_1).f0))).trans hx195_2; replace hx195_3 := (cell_far (p := ⟨gb194, 0, none⟩) (by first | (rw [add_block]; exact hn195_0) | (show (Addr.add _ _).block ≠ _; rw [add_block]; exact hn195_0) | exact hn195_0) (.int .i64 ((rd_T24 l0 x5_1).f0))).trans hx195_3; replace hx195_4 := (cell_far (p := ⟨gb194, 0, none⟩) (by first | (rw [add_block]; exact hn195_0) | (show (Addr.add _ _).block ≠ _; rw [add_block]; exact hn195_0) | exact hn195_0) (.int .i64 ((rd_T24 l0 x5_1).f0))).trans hx195_4; replace hx195_0 := (cell_far (p := ⟨gb194, 1, none⟩) (by first | (rw [add_block]; exact hn195_1) | (show (Addr.add _ _).block ≠ _; rw [add_block]; exact hn195_1) | exact hn195_1) (.int .i64 ((rd_T24 l0 x5_1).f1))).trans hx195_0; replace hx195_1 := (cell_far (p := ⟨gb194, 1, none⟩) (by first | (rw [add_block]; exact hn195_1) | (show (Addr.add _ _).block ≠ _; rw [add_block]; exact hn195_1) | exact hn195_1) (.int .i64 ((rd_T24 l0 x5_1).f1))).trans hx195_1; replace hx195_2 := (cell_far (p := ⟨gb194, 1, none⟩) (by first | (rw [add_block]; exact hn195_1) | (show (Addr.add _ _).block ≠ _; rw [add_block]; exact hn195_1) | exact hn195_1) (.int .i64 ((rd_T24 l0 x5_1).f1))).trans hx195_2; replace hx195_3 := (cell_far (p := ⟨gb194, 1, none⟩) (by first | (rw [add_block]; exact hn195_1) | (show (Addr.add _ _).block ≠ _; rw [add_block]; exact hn195_1) | exact hn195_1) (.int .i64 ((rd_T24 l0 x5_1).f1))).trans hx195_3; replace hx195_4 := (cell_far (p := ⟨gb194, 1, none⟩) (by first | (rw [add_block]; exact hn195_1) | (show (Addr.add _ _).block ≠ _; rw [add_block]; exact hn195_1) | exact hn195_1) (.int .i64 ((rd_T24 l0 x5_1).f1))).trans hx195_4; replace hx195_0 := (cell_far (p := ⟨gb194, 2, none⟩) (by first | (rw [add_block]; exact hn195_2) | (show (Addr.add _ _).block ≠ _; rw [add_block]; exact hn195_2) | exact hn195_2) (.int .i64 ((rd_T24 l0 x5_1).f2))).trans hx195_0; replace hx195_1 := (cell_far (p := ⟨gb194, 2, none⟩) (by first | (rw [add_block]; exact hn195_2) | (show (Addr.add _ _).block ≠ _; rw [add_block]; exact hn195_2) | exact hn195_2) (.int .i64 ((rd_T24 l0 x5_1).f2))).trans hx195_1; replace hx195_2 := (cell_far (p := ⟨gb194, 2, none⟩) (by first | (rw [add_block]; exact hn195_2) | (show (Addr.add _ _).block ≠ _; rw [add_block]; exact hn195_2) | exact hn195_2) (.int .i64 ((rd_T24 l0 x5_1).f2))).trans hx195_2; replace hx195_3 := (cell_far (p := ⟨gb194, 2, none⟩) (by first | (rw [add_block]; exact hn195_2) | (show (Addr.add _ _).block ≠ _; rw [add_block]; exact hn195_2) | exact hn195_2) (.int .i64 ((rd_T24 l0 x5_1).f2))).trans hx195_3; replace hx195_4 := (cell_far (p := ⟨gb194, 2, none⟩) (by first | (rw [add_block]; exact hn195_2) | (show (Addr.add _ _).block ≠ _; rw [add_block]; exact hn195_2) | exact hn195_2) (.int .i64 ((rd_T24 l0 x5_1).f2))).trans hx195_4; replace hx195_0 := (cell_far (p := ⟨gb194, 3, none⟩) (by first | (rw [add_block]; exact hn195_3) | (show (Addr.add _ _).block ≠ _; rw [add_block]; exact hn195_3) | exact hn195_3) (.int .u64 ((rd_T24 l0 x5_1).f3))).trans hx195_0; replace hx195_1 := (cell_far (p := ⟨gb194, 3, none⟩) (by first | (rw [add_block]; exact hn195_3) | (show (Addr.add _ _).block ≠ _; rw [add_block]; exact hn195_3) | exact hn195_3) (.int .u64 ((rd_T24 l0 x5_1).f3))).trans hx195_1; replace hx195_2 := (cell_far (p := ⟨gb194, 3, none⟩) (by first | (rw [add_block]; exact hn195_3) | (show (Addr.add _ _).block ≠ _; rw [add_block]; exact hn195_3) | exact hn195_3) (.int .u64 ((rd_T24 l0 x5_1).f3))).trans hx195_2; replace hx195_3 := (cell_far (p := ⟨gb194, 3, none⟩) (by first | (rw [add_block]; exact hn195_3) | (show (Addr.add _ _).block ≠ _; rw [add_block]; exact hn195_3) | exact hn195_3) (.int .u64 ((rd_T24 l0 x5_1).f3))).trans hx195_3; replace hx195_4 := (cell_far (p := ⟨gb194, 3, none⟩) (by first | (rw [add_block]; exact hn195_3) | (show (Addr.add _ _).block ≠ _; rw [add_block]; exact hn195_3) | exact hn195_3) (.int .u64 ((rd_T24 l0 x5_1).f3))).trans hx195_4; replace hx195_0 := (cell_far (p := ⟨gb194, 4, none⟩) (by first | (rw [add_block]; exact hn195_4) | (show (Addr.add _ _).block ≠ _; rw [add_block]; exact hn195_4) | exact hn195_4) (.string ((rd_T24 l0 x5_1).f4))).trans hx195_0; replace hx195_1 := (cell_far (p := ⟨gb194, 4, none⟩) (by first | (rw [add_block]; exact hn195_4) | (show (Addr.add _ _).block ≠ _; rw [add_block]; exact hn195_4) | exact hn195_4) (.string ((rd_T24 l0 x5_1).f4))).trans hx195_1; replace hx195_2 := (cell_far (p := ⟨gb194, 4, none⟩) (by first | (rw [add_block]; exact hn195_4) | (show (Addr.add _ _).block ≠ _; rw [add_block]; exact hn195_4) | exact hn195_4) (.string ((rd_T24 l0 x5_1).f4))).trans hx195_2; replace hx195_3 := (cell_far (p := ⟨gb194, 4, none⟩) (by first | (rw [add_block]; exact hn195_4) | (show (Addr.add _ _).block ≠ _; rw [add_block]; exact hn195_4) | exact hn195_4) (.string ((rd_T24 l0 x5_1).f4))).trans hx195_3; replace hx195_4 := (cell_far (p := ⟨gb194, 4, none⟩) (by first | (rw [add_block]; exact hn195_4) | (show (Addr.add _ _).block ≠ _; rw [add_block]; exact hn195_4) | exact hn195_4) (.string ((rd_T24 l0 x5_1).f4))).trans hx195_4; clear hn195_0; clear hn195_1; clear hn195_2; clear hn195_3; clear hn195_4; replace p195 := eq_true p195; replace q195 := eq_true q195) | ((with_reducible refine gate_dst (N := 7) rfl ?_); refine box_event ?hg (N := 7) ?hd (cs := #[.int .i64 0, .int .i64 0, .int .i64 0, .int .u64 0, .string (⟨#[]⟩ : ByteArray)]) (t := 26) ?hr ?_; (case hd => rfl); (case hg => rfl); (case hr => first | (go_simp; done) | (go_simp; rfl)); intro gb196 hg w44 hbox hb; have n0_ := Aside0.mk (blk_below (g := gb194) (o := .cells #[.int .i64 ((rd_T24 l0 x5_1).f0), .int .i64 ((rd_T24 l0 x5_1).f1), .int .i64 ((rd_T24 l0 x5_1).f2), .int .u64 ((rd_T24 l0 x5_1).f3), .string ((rd_T24 l0 x5_1).f4)] 24 (0, 0)) (by (with_reducible repeat (first | refine blk_drewN ?_ _ | refine blk_drew ?_ | refine blk_alloc ?_ _)); refine blk_put (cs := #[.int .i64 ((rd_T24 l0 x5_1).f0), .int .i64 ((rd_T24 l0 x5_1).f1), .int .i64 ((rd_T24 l0 x5_1).f2), .int .u64 ((rd_T24 l0 x5_1).f3), .string (⟨#[]⟩ : ByteArray)]) ?_ 4 _ rfl; (with_reducible repeat (first | refine blk_drewN ?_ _ | refine blk_drew ?_ | refine blk_alloc ?_ _)); refine blk_put (cs := #[.int .i64 ((rd_T24 l0 x5_1).f0), .int .i64 ((rd_T24 l0 x5_1).f1), .int .i64 ((rd_T24 l0 x5_1).f2), .int .u64 0, .string (⟨#[]⟩ : ByteArray)]) ?_ 3 _ rfl; (with_reducible repeat (first | refine blk_drewN ?_ _ | refine blk_drew ?_ | refine blk_alloc ?_ _)); refine blk_put (cs := #[.int .i64 ((rd_T24 l0 x5_1).f0), .int .i64 ((rd_T24 l0 x5_1).f1), .int .i64 0, .int .u64 0, .string (⟨#[]⟩ : ByteArray)]) ?_ 2 _ rfl; (with_reducible repeat (first | refine blk_drewN ?_ _ | refine blk_drew ?_ | refine blk_alloc ?_ _)); refine blk_put (cs := #[.int .i64 ((rd_T24 l0 x5_1).f0), .int .i64 0, .int .i64 0, .int .u64 0, .string (⟨#[]⟩ : ByteArray)]) ?_ 1 _ rfl; (with_reducible repeat (first | refine blk_drewN ?_ _ | refine blk_drew ?_ | refine blk_alloc ?_ _)); refine blk_put (cs := #[.int .i64 0, .int .i64 0, .int .i64 0, .int .u64 0, .string (⟨#[]⟩ : ByteArray)]) ?_ 0 _ rfl; (with_reducible repeat (first | refine blk_drewN ?_ _ | refine blk_drew ?_ | refine blk_alloc ?_ _)); exact BK194.out) hb); have n1_ := Aside0.mk (below_step (by repeat (first | (with_reducible first | exact HB.out | apply below_alloc | apply pw_below_drewN | apply below_drew1 | refine below_set ?_ GE194.out) | exact HB.out)) hb); have n2_ := Aside0.mk (hbox); have n3_ := Aside0.mk ((by rw [hg]; exact (below_size (by repeat (first | (with_reducible first | exact HB.out | apply below_alloc | apply pw_below_drewN | apply below_drew1 | refine below_set ?_ GE194.out) | exact HB.out))) : w.heap.size ≤ gb196)); have n4_ := Aside0.mk ((by rw [hg]; exact (below_size (by repeat (first | (with_reducible first | exact HB.out | apply below_alloc | apply pw_below_drewN | apply below_drew1 | refine below_set ?_ GE194.out) | exact HB.out))) : w.heap.size ≤ gb196)); have n5_ := Aside0.mk ((by rw [hg]; exact Nat.ne_of_lt (blk_lt (g := gb194) (o := .cells #[.int .i64 ((rd_T24 l0 x5_1).f0), .int .i64 ((rd_T24 l0 x5_1).f1), .int .i64 ((rd_T24 l0 x5_1).f2), .int .u64 ((rd_T24 l0 x5_1).f3), .string ((rd_T24 l0 x5_1).f4)] 24 (0, 0)) (by (with_reducible repeat (first | refine blk_drewN ?_ _ | refine blk_drew ?_ | refine blk_alloc ?_ _)); refine blk_put (cs := #[.int .i64 ((rd_T24 l0 x5_1).f0), .int .i64 ((rd_T24 l0 x5_1).f1), .int .i64 ((rd_T24 l0 x5_1).f2), .int .u64 ((rd_T24 l0 x5_1).f3), .string (⟨#[]⟩ : ByteArray)]) ?_ 4 _ rfl; (with_reducible repeat (first | refine blk_drewN ?_ _ | refine blk_drew ?_ | refine blk_alloc ?_ _)); refine blk_put (cs := #[.int .i64 ((rd_T24 l0 x5_1).f0), .int .i64 ((rd_T24 l0 x5_1).f1), .int .i64 ((rd_T24 l0 x5_1).f2), .int .u64 0, .string (⟨#[]⟩ : ByteArray)]) ?_ 3 _ rfl; (with_reducible repeat (first | refine blk_drewN ?_ _ | refine blk_drew ?_ | refine blk_alloc ?_ _)); refine blk_put (cs := #[.int .i64 ((rd_T24 l0 x5_1).f0), .int .i64 ((rd_T24 l0 x5_1).f1), .int .i64 0, .int .u64 0, .string (⟨#[]⟩ : ByteArray)]) ?_ 2 _ rfl; (with_reducible repeat (first | refine blk_drewN ?_ _ | refine blk_drew ?_ | refine blk_alloc ?_ _)); refine blk_put (cs := #[.int .i64 ((rd_T24 l0 x5_1).f0), .int .i64 0, .int .i64 0, .int .u64 0, .string (⟨#[]⟩ : ByteArray)]) ?_ 1 _ rfl; (with_reducible repeat (first | refine blk_drewN ?_ _ | refine blk_drew ?_ | refine blk_alloc ?_ _)); refine blk_put (cs := #[.int .i64 0, .int .i64 0, .int .i64 0, .int .u64 0, .string (⟨#[]⟩ : ByteArray)]) ?_ 0 _ rfl; (with_reducible repeat (first | refine blk_drewN ?_ _ | refine blk_drew ?_ | refine blk_alloc ?_ _)); exact BK194.out)) : gb194 ≠ gb196)); have n6_ := Aside0.mk ((by rw [hg]; exact Nat.ne_of_gt (blk_lt (g := gb194) (o := .cells #[.int .i64 ((rd_T24 l0 x5_1).f0), .int .i64 ((rd_T24 l0 x5_1).f1), .int .i64 ((rd_T24 l0 x5_1).f2), .int .u64 ((rd_T24 l0 x5_1).f3), .string ((rd_T24 l0 x5_1).f4)] 24 (0, 0)) (by (with_reducible repeat (first | refine blk_drewN ?_ _ | refine blk_drew ?_ | refine blk_alloc ?_ _)); refine blk_put (cs := #[.int .i64 ((rd_T24 l0 x5_1).f0), .int .i64 ((rd_T24 l0 x5_1).f1), .int .i64 ((rd_T24 l0 x5_1).f2), .int .u64 ((rd_T24 l0 x5_1).f3), .string (⟨#[]⟩ : ByteArray)]) ?_ 4 _ rfl; (with_reducible repeat (first | refine blk_drewN ?_ _ | refine blk_drew ?_ | refine blk_alloc ?_ _)); refine blk_put (cs := #[.int .i64 ((rd_T24 l0 x5_1).f0), .int .i64 ((rd_T24 l0 x5_1).f1), .int .i64 ((rd_T24 l0 x5_1).f2), .int .u64 0, .string (⟨#[]⟩ : ByteArray)]) ?_ 3 _ rfl; (with_reducible repeat (first | refine blk_drewN ?_ _ | refine blk_drew ?_ | refine blk_alloc ?_ _)); refine blk_put (cs := #[.int .i64 ((rd_T24 l0 x5_1).f0), .int .i64 ((rd_T24 l0 x5_1).f1), .int .i64 0, .int .u64 0, .string (⟨#[]⟩ : ByteArray)]) ?_ 2 _ rfl; (with_reducible repeat (first | refine blk_drewN ?_ _ | refine blk_drew ?_ | refine blk_alloc ?_ _)); refine blk_put (cs := #[.int .i64 ((rd_T24 l0 x5_1).f0), .int .i64 0, .int .i64 0, .int .u64 0, .string (⟨#[]⟩ : ByteArray)]) ?_ 1 _ rfl; (with_reducible repeat (first | refine blk_drewN ?_ _ | refine blk_drew ?_ | refine blk_alloc ?_ _)); refine blk_put (cs := #[.int .i64 0, .int .i64 0, .int .i64 0, .int .u64 0, .string (⟨#[]⟩ : ByteArray)]) ?_ 0 _ rfl; (with_reducible repeat (first | refine blk_drewN ?_ _ | refine blk_drew ?_ | refine blk_alloc ?_ _)); exact BK194.out)) : gb196 ≠ gb194)); clear BK194; clear HB; have BK194 := n0_; have HB := n1_; have BK196 := n2_; have GW196 := n3_; have GE196 := n4_; have NB194_196 := n5_; have NB196_194 := n6_; clear n0_ n1_ n2_ n3_ n4_ n5_ n6_; clear hb hbox hg; have hnb45 := NB196_194.out; have hnc45 := NB194_196.out; have hcz46_0 : w44.cell? ⟨gb196, 0, none⟩ = some (.int .i64 0) := (blk_cell BK196.out 0).trans rfl; have hcz46_1 : w44.cell? ⟨gb196, 1, none⟩ = some (.int .i64 0) := (blk_cell BK196.out 1).trans rfl; have hcz46_2 : w44.cell? ⟨gb196, 2, none⟩ = some (.int .i64 0) := (blk_cell BK196.out 2).trans rfl; have hcz46_3 : w44.cell? ⟨gb196, 3, none⟩ = some (.int .u64 0) := (blk_cell BK196.out 3).trans rfl; have hcz46_4 : w44.cell? ⟨gb196, 4, none⟩ = some (.string (⟨#[]⟩ : ByteArray)) := (blk_cell BK196.out 4).trans rfl; have hfz46_0 := blk_frozen BK196.out 0; have hfz46_1 := blk_frozen BK196.out 1; have hfz46_2 := blk_frozen BK196.out 2; have hfz46_3 := blk_frozen BK196.out 3; have hfz46_4 := blk_frozen BK196.out 4; have hcz47_0 : w44.cell? ⟨gb194, 0, none⟩ = some (.int .i64 ((rd_T24 l0 x5_1).f0)) := (blk_cell BK194.out 0).trans rfl; have hcz47_1 : w44.cell? ⟨gb194, 1, none⟩ = some (.int .i64 ((rd_T24 l0 x5_1).f1)) := (blk_cell BK194.out 1).trans rfl; have hcz47_2 : w44.cell? ⟨gb194, 2, none⟩ = some (.int .i64 ((rd_T24 l0 x5_1).f2)) := (blk_cell BK194.out 2).trans rfl; have hcz47_3 : w44.cell? ⟨gb194, 3, none⟩ = some (.int .u64 ((rd_T24 l0 x5_1).f3)) := (blk_cell BK194.out 3).trans rfl; have hcz47_4 : w44.cell? ⟨gb194, 4, none⟩ = some (.string ((rd_T24 l0 x5_1).f4)) := (blk_cell BK194.out 4).trans rfl; have hfz47_0 := blk_frozen BK194.out 0; have hfz47_1 := blk_frozen BK194.out 1; have hfz47_2 := blk_frozen BK194.out 2; have hfz47_3 := blk_frozen BK194.out 3; have hfz47_4 := blk_frozen BK194.out 4))
        go_ret
        exact ⟨by first | rfl | (simp [errW_none, errW_some] <;> rfl) | (simp [*, errW_none, errW_some] <;> rfl), by repeat (first | (with_reducible first | exact HB.out | apply below_alloc | apply pw_below_drewN | apply below_drew1 | refine below_set ?_ GE194.out | refine below_set ?_ GE196.out) | exact HB.out)⟩
      ·rw [if_neg c6] at H
       exact absurd H (by simp)
     ·rw [if_neg c5] at H
      exact absurd H (by simp)
    ·rw [if_neg c4] at H
     have c4b0 : decide (x5_1 < (l0.length : Int)) = false := decide_eq_false c4
     clear c4
     obtain rfl := Option.some.inj H
     go_wp2
     go_ret
     exact ⟨by first | rfl | (simp [errW_none, errW_some] <;> rfl) | (simp [*, errW_none, errW_some] <;> rfl), by repeat (first | (with_reducible first | exact HB.out | apply below_alloc | apply pw_below_drewN | apply below_drew1) | exact HB.out)⟩
 ·rw [if_neg c3] at H
  have c3b0 : ((l0.length : Int) == (l1.length : Int)) = false := beq_eq_false_iff_ne.mpr c3
  have c3b1 : ((l0.length : Int) != (l1.length : Int)) = true := bne_iff_ne.mpr c3
  have c3b2 : (l0.length == l1.length) = false := by first | simpa using c3 | (simp at c3 ⊢; omega)
  obtain rfl := Option.some.inj H
  go_enter Tryd.func26, Tryd.ntmps26
  go_wp2
  go_ret
  exact ⟨by first | rfl | (simp [errW_none, errW_some] <;> rfl) | (simp [*, errW_none, errW_some] <;> rfl), by repeat (first | (with_reducible first | exact HB.out | apply below_alloc | apply pw_below_drewN | apply below_drew1) | exact HB.out)⟩

end Go.Proofs.YtboommbclbjlnaaDoor.Fn
end
section
-- Written by printx.py, a program of this session over the kit's print: each Go function as a plain Lean function, and that the Go code computes it.

namespace Go.Proofs.YtboommbclbjlnaaDoor.Fn
open Go.RowKit Go.Proofs.YtboommbclbjlnaaDoorW.PrintWords Go.Proofs.YtboommbclbjlnaaDoorW.PrintLast Go.Proofs.YtboommbclbjlnaaDoorW.PrintMore Go.Proofs.YtboommbclbjlnaaDoor.Lf
attribute [local go_sem] max2_int min2_int max_two min_two max_three min_three max_four min_four   -- for this text's walks alone
set_option linter.unusedVariables false
set_option linter.unusedSimpArgs false

/-! ### rootcellarlaw12_shortSteps: function 23 -/
def rootcellarlaw12_shortSteps.l0 : Nat → List (S24) → Int → Option (Bool)
 | 0, _, _ => none
 | k + 1, x0, x3 => if x3 < (x0.length : Int) then (if 0 ≤ x3 then (if (((rd_T24 x0 x3).f4).size : Int) > 200 then (some false) else (rootcellarlaw12_shortSteps.l0 k x0 (wrap64 (x3 + 1)))) else (none)) else (some true)
def rootcellarlaw12_shortSteps.f (k : Nat) (l0 : List (S24)) : Option (Bool) := if (l0.length : Int) > 60 then (some false) else (rootcellarlaw12_shortSteps.l0 k l0 0)
theorem rootcellarlaw12_shortSteps.mono_l : ∀ k, (∀ y0 y1, LeO (rootcellarlaw12_shortSteps.l0 k y0 y1) (rootcellarlaw12_shortSteps.l0 (k + 1) y0 y1))
 | 0 => fun _ _ r h => by simp [rootcellarlaw12_shortSteps.l0] at h
 | k + 1 => by
  have ih0 := rootcellarlaw12_shortSteps.mono_l k
  ·intro y0 y1
   unfold rootcellarlaw12_shortSteps.l0
   repeat' first
   | (with_reducible exact ih0 _ _)
   | (with_reducible exact LeO.refl _)
   | (with_reducible exact LeO.none _)
   | (with_reducible refine LeO.ite ?_ ?_)
   | (with_reducible refine LeO.bind ?_ (fun _ => ?_))
   | exact ih0 _ _
   | exact LeO.none _
   | refine LeO.ite ?_ ?_
   | refine LeO.bind ?_ (fun _ => ?_)
theorem rootcellarlaw12_shortSteps.mono : ∀ a0 k, LeO (rootcellarlaw12_shortSteps.f k a0) (rootcellarlaw12_shortSteps.f (k + 1) a0) := by
 intro a0 k
 have ih0 := rootcellarlaw12_shortSteps.mono_l k
 unfold rootcellarlaw12_shortSteps.f
 repeat' first
   | (with_reducible exact ih0 _ _)
   | (with_reducible exact LeO.refl _)
   | (with_reducible exact LeO.none _)
   | (with_reducible refine LeO.ite ?_ ?_)
   | (with_reducible refine LeO.bind ?_ (fun _ => ?_))
   | exact ih0 _ _
   | exact LeO.none _
   | refine LeO.ite ?_ ?_
   | refine LeO.bind ?_ (fun _ => ?_)
set_option maxHeartbeats 8000000 in
set_option maxRecDepth 100000 in
theorem rootcellarlaw12_shortSteps.calls (k : Nat) (A0 : Option Addr) (c0 : Nat) (l0 : List (S24)) (r : Bool) (w : World) (hr0 : Kd.C k24 w A0 l0.length l0) (hc0 : l0.length ≤ c0) (h : rootcellarlaw12_shortSteps.f k l0 = some r) :
  Calls Tryd.prog 23 #[.slice A0 l0.length c0] w fun e w' => e = .returned (.bool r) ∧ Drawn0 w w' := by
 have HR0 := Aside0.mk hr0
 have HC0 := Aside0.mk hc0
 clear hr0 hc0
 have H : (if (l0.length : Int) > 60 then (some false) else (rootcellarlaw12_shortSteps.l0 k l0 0)) = some r := h
 clear h
 by_cases c2 : (l0.length : Int) > 60
 ·rw [if_pos c2] at H
  have c2b0 : decide (60 < (l0.length : Int)) = true := decide_eq_true c2
  have c2b1 : decide (60 < l0.length) = true := decide_eq_true (by omega)
  clear c2
  obtain rfl := Option.some.inj H
  go_enter Tryd.func23, Tryd.ntmps23
  go_wp2
  go_ret
  exact ⟨by first | rfl | (simp; done) | (simp [*]; done), by repeat (first | exact Drawn0.refl _ | apply Drawn0.step)⟩
 ·rw [if_neg c2] at H
  have c2b0 : decide (60 < (l0.length : Int)) = false := decide_eq_false c2
  have c2b1 : decide (60 < l0.length) = false := decide_eq_false (by omega)
  clear c2
  have H' := Aside0.mk H
  clear H
  go_enter Tryd.func23, Tryd.ntmps23
  go_wp2
  go_loopg [3] k (fun kq v3 w' => ∃ (x3_1 : Int), v3 = .int .i64 x3_1 ∧ Aside0 (rootcellarlaw12_shortSteps.l0 kq l0 x3_1 = some r) ∧ Aside0 (kq ≤ k) ∧ Drawn0 w w')
  case atStart => exact ⟨(0), (by first | rfl | (simp; done) | (simp [*]; done)), H', ⟨Nat.le_refl _⟩, by repeat (first | exact Drawn0.refl _ | apply Drawn0.step)⟩
  case round =>
   clear H'
   try clear c2
   try clear c2b0
   try clear c2b1
   try clear p2
   obtain ⟨x3_1, rfl, HA, HK1, ⟨m1, rfl⟩⟩ := hrel
   cases gk with
   | zero => exact absurd HA.out (by simp [rootcellarlaw12_shortSteps.l0])
   | succ k1 =>
    have H := HA.out
    clear HA
    simp only [rootcellarlaw12_shortSteps.l0] at H
    by_cases c3 : x3_1 < (l0.length : Int)
    ·rw [if_pos c3] at H
     have c3b0 : decide (x3_1 < (l0.length : Int)) = true := decide_eq_true c3
     clear c3
     by_cases c4 : 0 ≤ x3_1
     ·rw [if_pos c4] at H
      have c4b0 : decide (0 ≤ x3_1) = true := decide_eq_true c4
      clear c4
      by_cases c5 : (((rd_T24 l0 x3_1).f4).size : Int) > 200
      ·rw [if_pos c5] at H
       have c5b0 : decide (200 < (((rd_T24 l0 x3_1).f4).size : Int)) = true := decide_eq_true c5
       have c5b1 : decide (200 < ((rd_T24 l0 x3_1).f4).size) = true := decide_eq_true (by omega)
       clear c5
       obtain rfl := Option.some.inj H
       have p171 : 0 ≤ (x3_1 : Int) := of_decide_eq_true (by first | (with_reducible assumption) | assumption)
       have q171 : x3_1 < (l0.length : Int) := of_decide_eq_true (by first | (with_reducible assumption) | assumption)
       obtain ⟨ad171, e171, hx171_0, hx171_1, hx171_2, hx171_3, hx171_4⟩ := at_T24 HR0.out x3_1 p171 q171
       cases e171
       replace p171 := eq_true p171
       replace q171 := eq_true q171
       go_wp2
       go_ret
       exact ⟨by first | rfl | (simp; done) | (simp [*]; done), by repeat (first | exact Drawn0.refl _ | apply Drawn0.step)⟩
      ·rw [if_neg c5] at H
       have c5b0 : decide (200 < (((rd_T24 l0 x3_1).f4).size : Int)) = false := decide_eq_false c5
       have c5b1 : decide (200 < ((rd_T24 l0 x3_1).f4).size) = false := decide_eq_false (by omega)
       clear c5
       have H' := Aside0.mk H
       clear H
       have p171 : 0 ≤ (x3_1 : Int) := of_decide_eq_true (by first | (with_reducible assumption) | assumption)
       have q171 : x3_1 < (l0.length : Int) := of_decide_eq_true (by first | (with_reducible assumption) | assumption)
       obtain ⟨ad171, e171, hx171_0, hx171_1, hx171_2, hx171_3, hx171_4⟩ := at_T24 HR0.out x3_1 p171 q171
       cases e171
       replace p171 := eq_true p171
       replace q171 := eq_true q171
       go_wp2
       go_roundg k1
       case measure => have := HK1.out; omega
       case rel => exact ⟨(wrap64 (x3_1 + 1)), (by first | rfl | (simp; done) | (simp [*]; done)), H', ⟨by have := HK1.out; omega⟩, by repeat (first | exact Drawn0.refl _ | apply Drawn0.step)⟩
     ·rw [if_neg c4] at H
      exact absurd H (by simp)
    ·rw [if_neg c3] at H
     have c3b0 : decide (x3_1 < (l0.length : Int)) = false := decide_eq_false c3
     clear c3
     obtain rfl := Option.some.inj H
     go_wp2
     go_ret
     exact ⟨by first | rfl | (simp; done) | (simp [*]; done), by repeat (first | exact Drawn0.refl _ | apply Drawn0.step)⟩

end Go.Proofs.YtboommbclbjlnaaDoor.Fn
end
