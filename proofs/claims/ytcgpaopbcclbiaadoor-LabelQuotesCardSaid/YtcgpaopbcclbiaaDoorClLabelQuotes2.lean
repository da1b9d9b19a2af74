-- Packed by pack.py, a program of this session, out of texts of this claim.
import Derived.Test.YtcgpaopbcclbiaaDoorClLabelQuotes1
section
-- Written by printx.py, a program of this session over the kit's print: each Go function as a plain Lean function, and that the Go code computes it.



namespace Go.Proofs.YtcgpaopbcclbiaaDoor.Fn
open Go.RowKit Go.Proofs.YtcgpaopbcclbiaaDoorW.PrintWords Go.Proofs.YtcgpaopbcclbiaaDoorW.PrintLast Go.Proofs.YtcgpaopbcclbiaaDoorW.PrintMore Go.Proofs.YtcgpaopbcclbiaaDoor.Lf
attribute [local go_sem] max2_int min2_int max_two min_two max_three min_three max_four min_four   -- for this text's walks alone
set_option linter.unusedVariables false
set_option linter.unusedSimpArgs false

/-! ### rootcellarref1_Unquote: function 7 -/
def rootcellarref1_Unquote.l0 : Nat → ByteArray → List Int → ByteArray → Option (ByteArray × Int)
 | 0, _, _, _ => none
 | k + 1, x0, x4, x5 => if x5.toList = ([] : List UInt8) then (if (x4.length : Int) = 0 then (some ((⟨#[]⟩ : ByteArray), 2)) else ((rootcellarref1_Quote.f k (strOfNums x4)).bind fun t147 => (if t147.toList = x0.toList then (some (strOfNums x4, 0)) else (some ((⟨#[]⟩ : ByteArray), 2))))) else ((rootcellarref1_one.f k x5).bind fun bt148 => (if bt148.2 = 0 then (some ((⟨#[]⟩ : ByteArray), 2)) else (if x4.length + bt148.1.length < 140737488355328 then (if 0 ≤ bt148.2 then (if bt148.2 ≤ (x5.size : Int) then (rootcellarref1_Unquote.l0 k x0 (x4 ++ bt148.1) (x5.extract (bt148.2 : Int).toNat x5.size)) else (none)) else (none)) else (none))))
def rootcellarref1_Unquote.f (k : Nat) (a0 : ByteArray) : Option (ByteArray × Int) := if a0.toList = ([92, 95] : List UInt8) then (some ((⟨#[]⟩ : ByteArray), 0)) else (rootcellarref1_Unquote.l0 k a0 ([] : List Int) a0)
theorem rootcellarref1_Unquote.mono_l : ∀ k, (∀ y0 y1 y2, LeO (rootcellarref1_Unquote.l0 k y0 y1 y2) (rootcellarref1_Unquote.l0 (k + 1) y0 y1 y2))
 | 0 => fun _ _ _ r h => by simp [rootcellarref1_Unquote.l0] at h
 | k + 1 => by
  have ih0 := rootcellarref1_Unquote.mono_l k
  ·intro y0 y1 y2
   unfold rootcellarref1_Unquote.l0
   repeat' first
   | (with_reducible exact ih0 _ _ _)
   | (with_reducible exact rootcellarref1_Quote.mono _ _)
   | (with_reducible exact rootcellarref1_one.mono _ _)
   | (with_reducible exact LeO.refl _)
   | (with_reducible exact LeO.none _)
   | (with_reducible refine LeO.ite ?_ ?_)
   | (with_reducible refine LeO.bind ?_ (fun _ => ?_))
   | exact ih0 _ _ _
   | exact rootcellarref1_Quote.mono _ _
   | exact rootcellarref1_one.mono _ _
   | exact LeO.none _
   | refine LeO.ite ?_ ?_
   | refine LeO.bind ?_ (fun _ => ?_)
theorem rootcellarref1_Unquote.mono : ∀ a0 k, LeO (rootcellarref1_Unquote.f k a0) (rootcellarref1_Unquote.f (k + 1) a0) := by
 intro a0 k
 have ih0 := rootcellarref1_Unquote.mono_l k
 unfold rootcellarref1_Unquote.f
 repeat' first
   | (with_reducible exact ih0 _ _ _)
   | (with_reducible exact rootcellarref1_Quote.mono _ _)
   | (with_reducible exact rootcellarref1_one.mono _ _)
   | (with_reducible exact LeO.refl _)
   | (with_reducible exact LeO.none _)
   | (with_reducible refine LeO.ite ?_ ?_)
   | (with_reducible refine LeO.bind ?_ (fun _ => ?_))
   | exact ih0 _ _ _
   | exact rootcellarref1_Quote.mono _ _
   | exact rootcellarref1_one.mono _ _
   | exact LeO.none _
   | refine LeO.ite ?_ ?_
   | refine LeO.bind ?_ (fun _ => ?_)
set_option maxHeartbeats 8000000 in
set_option maxRecDepth 100000 in
theorem rootcellarref1_Unquote.calls (k : Nat) (a0 : ByteArray) (r1 : ByteArray) (r2 : Int) (w : World) (h : rootcellarref1_Unquote.f k a0 = some (r1, r2)) :
  Calls Tryd.prog 7 #[.string a0] w fun e w' => e = .returned (.tuple #[.string r1, .int .i64 r2]) ∧ Below w.heap.size w w' := by
 have HB := Aside0.mk (Below.refl w.heap.size w)
 have H : (if a0.toList = ([92, 95] : List UInt8) then (some ((⟨#[]⟩ : ByteArray), 0)) else (rootcellarref1_Unquote.l0 k a0 ([] : List Int) a0)) = some (r1, r2) := h
 clear h
 by_cases c2 : a0.toList = ([92, 95] : List UInt8)
 ·rw [if_pos c2] at H
  have c2b0 : (a0.toList == ([92, 95] : List UInt8)) = true := beq_iff_eq.mpr c2
  have c2b1 : (a0.toList != ([92, 95] : List UInt8)) = false := bne_eq_false_iff_eq.mpr c2
  clear c2
  simp only [Option.some.injEq, Prod.mk.injEq] at H
  obtain ⟨rfl, rfl⟩ := H
  go_enter Tryd.func7, Tryd.ntmps7
  go_wp2
  go_ret2
  exact ⟨by first | rfl | (simp [errW_none, errW_some] <;> rfl) | (simp [*, errW_none, errW_some] <;> rfl), by repeat (first | (with_reducible first | exact HB.out | apply below_alloc | apply pw_below_drewN | apply below_drew1) | exact HB.out)⟩
 ·rw [if_neg c2] at H
  have c2b0 : (a0.toList == ([92, 95] : List UInt8)) = false := beq_eq_false_iff_ne.mpr c2
  have c2b1 : (a0.toList != ([92, 95] : List UInt8)) = true := bne_iff_ne.mpr c2
  have H' := Aside0.mk H
  clear H
  go_enter Tryd.func7, Tryd.ntmps7
  go_wp2
  go_loopg [4, 5] k (fun kq v4 v5 w' => ∃ (x4_1 : List Int) (x5_1 : ByteArray), v5 = .string x5_1 ∧ Aside0 (rootcellarref1_Unquote.l0 kq a0 x4_1 x5_1 = some (r1, r2)) ∧ Aside0 (kq ≤ k) ∧ Aside0 (Kd.R (Kd.int .u8) 5 w' w.heap.size (fun _ => True) v4 x4_1) ∧ Aside0 (Below w.heap.size w w'))
  case atStart => exact ⟨(([] : List Int)), (a0), (by first | rfl | (simp; done) | (simp [*]; done)), H', ⟨Nat.le_refl _⟩, ⟨by first | exact Kd.R_nil _ _ _ _ _ | exact Kd.N_nil _ _ _ _ _ | exact Kd.V_nil _ _ _ _ _ | exact Kd.Q_nil _ _ _ _ _ | exact Kd.S_nil _ _ _ _ _⟩, ⟨by repeat (first | (with_reducible first | exact HB.out | apply below_alloc | apply pw_below_drewN | apply below_drew1) | exact HB.out)⟩⟩
  case round =>
   clear H'
   try clear c2
   try clear c2b0
   try clear c2b1
   try clear p2
   obtain ⟨x4_1, x5_1, rfl, HA, HK1, HO_4, HB⟩ := hrel
   cases gk with
   | zero => exact absurd HA.out (by simp [rootcellarref1_Unquote.l0])
   | succ k1 =>
    have H := HA.out
    clear HA
    simp only [rootcellarref1_Unquote.l0] at H
    by_cases c3 : x5_1.toList = ([] : List UInt8)
    ·rw [if_pos c3] at H
     have c3b0 : (x5_1.toList == ([] : List UInt8)) = true := beq_iff_eq.mpr c3
     have c3b1 : (x5_1.toList != ([] : List UInt8)) = false := bne_eq_false_iff_eq.mpr c3
     clear c3
     by_cases c4 : (x4_1.length : Int) = 0
     ·rw [if_pos c4] at H
      have c4b0 : ((x4_1.length : Int) == 0) = true := beq_iff_eq.mpr c4
      have c4b1 : ((x4_1.length : Int) != 0) = false := bne_eq_false_iff_eq.mpr c4
      clear c4
      simp only [Option.some.injEq, Prod.mk.injEq] at H
      obtain ⟨rfl, rfl⟩ := H
      obtain ⟨Ao5, co5, eo5⟩ := Kd.R_slice HO_4.out
      subst eo5
      go_wp2
      go_ret2
      exact ⟨by first | rfl | (simp [errW_none, errW_some] <;> rfl) | (simp [*, errW_none, errW_some] <;> rfl), by repeat (first | (with_reducible first | exact HB.out | apply below_alloc | apply pw_below_drewN | apply below_drew1) | exact HB.out)⟩
     ·rw [if_neg c4] at H
      have c4b0 : ((x4_1.length : Int) == 0) = false := beq_eq_false_iff_ne.mpr c4
      have c4b1 : ((x4_1.length : Int) != 0) = true := bne_iff_ne.mpr c4
      have c4b2 : ¬ (x4_1 = []) := fun h_ => c4 (by rw [h_]; rfl)
      replace H := Option.bind_eq_some_iff.mp H
      obtain ⟨t147, A60, H⟩ := H
      replace H : (if t147.toList = a0.toList then (some (strOfNums x4_1, 0)) else (some ((⟨#[]⟩ : ByteArray), 2))) = some (r1, r2) := H
      have A6 := Aside0.mk A60
      clear A60
      by_cases c7 : t147.toList = a0.toList
      ·rw [if_pos c7] at H
       have c7b0 : (t147.toList == a0.toList) = true := beq_iff_eq.mpr c7
       have c7b1 : (t147.toList != a0.toList) = false := bne_eq_false_iff_eq.mpr c7
       clear c7
       simp only [Option.some.injEq, Prod.mk.injEq] at H
       obtain ⟨rfl, rfl⟩ := H
       obtain ⟨Ao8, co8, eo8⟩ := Kd.R_slice HO_4.out
       subst eo8
       have hcv9 := own_string (P := Tryd.prog) Tryd.underlying32 Tryd.underlying5 Tryd.underlying9 (Kd.own_of_R HO_4.out)
       go_wp2_with (first | (go_at_call 9; (with_reducible refine (rootcellarref1_Quote.calls k1 (strOfNums x4_1) t147 _ A6.out).mono ?_); rintro e w' ⟨rfl, ⟨nd, rfl⟩⟩; have hcv10 := own_string (P := Tryd.prog) Tryd.underlying32 Tryd.underlying5 Tryd.underlying9 (Kd.own_of_R (Kd.R_drewN HO_4.out nd))))
       go_ret2
       exact ⟨by first | rfl | (simp [errW_none, errW_some] <;> rfl) | (simp [*, errW_none, errW_some] <;> rfl), by repeat (first | (with_reducible first | exact HB.out | apply below_alloc | apply pw_below_drewN | apply below_drew1) | exact HB.out)⟩
      ·rw [if_neg c7] at H
       have c7b0 : (t147.toList == a0.toList) = false := beq_eq_false_iff_ne.mpr c7
       have c7b1 : (t147.toList != a0.toList) = true := bne_iff_ne.mpr c7
       simp only [Option.some.injEq, Prod.mk.injEq] at H
       obtain ⟨rfl, rfl⟩ := H
       obtain ⟨Ao11, co11, eo11⟩ := Kd.R_slice HO_4.out
       subst eo11
       have hcv12 := own_string (P := Tryd.prog) Tryd.underlying32 Tryd.underlying5 Tryd.underlying9 (Kd.own_of_R HO_4.out)
       go_wp2_with (first | (go_at_call 9; (with_reducible refine (rootcellarref1_Quote.calls k1 (strOfNums x4_1) t147 _ A6.out).mono ?_); rintro e w' ⟨rfl, ⟨nd, rfl⟩⟩))
       go_ret2
       exact ⟨by first | rfl | (simp [errW_none, errW_some] <;> rfl) | (simp [*, errW_none, errW_some] <;> rfl), by repeat (first | (with_reducible first | exact HB.out | apply below_alloc | apply pw_below_drewN | apply below_drew1) | exact HB.out)⟩
    ·rw [if_neg c3] at H
     have c3b0 : (x5_1.toList == ([] : List UInt8)) = false := beq_eq_false_iff_ne.mpr c3
     have c3b1 : (x5_1.toList != ([] : List UInt8)) = true := bne_iff_ne.mpr c3
     replace H := Option.bind_eq_some_iff.mp H
     obtain ⟨⟨t148, t149⟩, A130, H⟩ := H
     replace H : (if t149 = 0 then (some ((⟨#[]⟩ : ByteArray), 2)) else (if x4_1.length + t148.length < 140737488355328 then (if 0 ≤ t149 then (if t149 ≤ (x5_1.size : Int) then (rootcellarref1_Unquote.l0 k1 a0 (x4_1 ++ t148) (x5_1.extract (t149 : Int).toNat x5_1.size)) else (none)) else (none)) else (none))) = some (r1, r2) := H
     have A13 := Aside0.mk A130
     clear A130
     by_cases c14 : t149 = 0
     ·rw [if_pos c14] at H
      have c14b0 : (t149 == 0) = true := beq_iff_eq.mpr c14
      have c14b1 : (t149 != 0) = false := bne_eq_false_iff_eq.mpr c14
      clear c14
      simp only [Option.some.injEq, Prod.mk.injEq] at H
      obtain ⟨rfl, rfl⟩ := H
      go_wp2_with (first | ((with_reducible refine gate_callee (f := 17) rfl ?_); refine goesL_ (some 15) rfl rfl Tryd.func17 (by kernel_rfl) rfl #[.string x5_1] rfl (by (try simp only [List.map_toArray, List.map_cons, List.map_nil]); first | done | rfl | (simp only [List.length_drop, List.length_take]; rfl) | (rw [wrap_sum2 (by assumption)]; rfl)) ?_; (with_reducible refine (rootcellarref1_one.calls k1 x5_1 t148 t149 _ A13.out).mono ?_); rintro e w15 ⟨v150, rfl, ho0, hb⟩; refine ⟨_, rfl, ?_⟩; have n0_ := Aside0.mk (Kd.R_elder' (by (with_reducible repeat (first | apply Kd.R_alloc | apply Kd.R_drewN | apply Kd.R_drew)); exact HO_4.out) (Kd.R_base ho0) hb); have n1_ := Aside0.mk (Kd.R_lower (Kd.R_new' ho0 (Kd.R_lt (by (with_reducible repeat (first | apply Kd.R_alloc | apply Kd.R_drewN | apply Kd.R_drew)); exact HO_4.out))) (below_size (by repeat (first | (with_reducible first | exact HB.out | apply below_alloc | apply pw_below_drewN | apply below_drew1) | exact HB.out)))); have n2_ := Aside0.mk (below_step (by repeat (first | (with_reducible first | exact HB.out | apply below_alloc | apply pw_below_drewN | apply below_drew1) | exact HB.out)) hb); clear HO_4; clear HB; have HO_4 := n0_; have HO151 := n1_; have HB := n2_; clear n0_ n1_ n2_; (try clear hb); (try clear hb2); (try clear hk); (try clear hi); (try clear ho0)))
      go_ret2
      exact ⟨by first | rfl | (simp [errW_none, errW_some] <;> rfl) | (simp [*, errW_none, errW_some] <;> rfl), by repeat (first | (with_reducible first | exact HB.out | apply below_alloc | apply pw_below_drewN | apply below_drew1) | exact HB.out)⟩
     ·rw [if_neg c14] at H
      have c14b0 : (t149 == 0) = false := beq_eq_false_iff_ne.mpr c14
      have c14b1 : (t149 != 0) = true := bne_iff_ne.mpr c14
      by_cases c16 : x4_1.length + t148.length < 140737488355328
      ·rw [if_pos c16] at H
       have LMc16 := Aside0.mk c16
       clear c16
       obtain ⟨y152, hy152⟩ : ∃ y_ : List Int, y_ = (x4_1 ++ t148) := ⟨_, rfl⟩
       replace H : (if 0 ≤ t149 then (if t149 ≤ (x5_1.size : Int) then (rootcellarref1_Unquote.l0 k1 a0 y152 (x5_1.extract (t149 : Int).toNat x5_1.size)) else (none)) else (none)) = some (r1, r2) := by first | (rw [hy152]; with_reducible exact H) | (have H2_ := (Option.bind_some _ _).symm.trans H; rw [hy152]; with_reducible exact H2_) | (have H2_ := (Option.bind_some _ _).symm.trans H; with_reducible exact H2_) | with_reducible exact H | (rw [hy152]; exact H) | exact H
       have Ny152 := Aside0.mk hy152
       clear hy152
       by_cases c17 : 0 ≤ t149
       ·rw [if_pos c17] at H
        have c17b0 := eq_true c17
        have c17b1 : decide (0 ≤ t149) = true := decide_eq_true c17
        clear c17
        by_cases c18 : t149 ≤ (x5_1.size : Int)
        ·rw [if_pos c18] at H
         have c18b0 := eq_true c18
         have c18b1 : decide (t149 ≤ (x5_1.size : Int)) = true := decide_eq_true c18
         clear c18
         have H' := Aside0.mk H
         clear H
         go_wp2_with (first | ((with_reducible refine gate_callee (f := 17) rfl ?_); refine goesL_ (some 15) rfl rfl Tryd.func17 (by kernel_rfl) rfl #[.string x5_1] rfl (by (try simp only [List.map_toArray, List.map_cons, List.map_nil]); first | done | rfl | (simp only [List.length_drop, List.length_take]; rfl) | (rw [wrap_sum2 (by assumption)]; rfl)) ?_; (with_reducible refine (rootcellarref1_one.calls k1 x5_1 t148 t149 _ A13.out).mono ?_); rintro e w19 ⟨v150, rfl, ho0, hb⟩; refine ⟨_, rfl, ?_⟩; have n0_ := Aside0.mk (Kd.R_elder' (by (with_reducible repeat (first | apply Kd.R_alloc | apply Kd.R_drewN | apply Kd.R_drew)); exact HO_4.out) (Kd.R_base ho0) hb); have n1_ := Aside0.mk (Kd.R_lower (Kd.R_new' ho0 (Kd.R_lt (by (with_reducible repeat (first | apply Kd.R_alloc | apply Kd.R_drewN | apply Kd.R_drew)); exact HO_4.out))) (below_size (by repeat (first | (with_reducible first | exact HB.out | apply below_alloc | apply pw_below_drewN | apply below_drew1) | exact HB.out)))); have n2_ := Aside0.mk (below_step (by repeat (first | (with_reducible first | exact HB.out | apply below_alloc | apply pw_below_drewN | apply below_drew1) | exact HB.out)) hb); clear HO_4; clear HB; have HO_4 := n0_; have HO151 := n1_; have HB := n2_; clear n0_ n1_ n2_; (try clear hb); (try clear hb2); (try clear hk); (try clear hi); (try clear ho0); obtain ⟨Ao21, co21, eo21⟩ := Kd.R_slice HO151.out; subst eo21) | ((with_reducible refine gate_builtin (b := .append) (xs := #[.tmp 20, .tmp 21]) rfl ?_); at_builtin; refine Kd.R_append_rows (Kd.int .u8) (w0 := w) w.heap.size rfl (.tmp 20) (.tmp 21) 32 5 (.int .u8 0) 1 rfl Tryd.underlying32 info5 rfl (by decide) (by omega) u4 x4_1 t148 _ _ _ (fun k_ => some k_ ≠ (.slice Ao21 t148.length co21 : Value).ownBlock) (fun _ => False) rfl rfl ?aO ?aR (fun _ _ h => h) (fun _ h => h.elim) ?aF ?aB ?aS ?aL ?_; (case aR => repeat (first | exact (Kd.R_reads' HO151.out).2.2 | (with_reducible refine Kd.C_alloc ?_ _) | (with_reducible refine Kd.C_drewN ?_ _) | (with_reducible refine Kd.C_drew ?_))); (case aB => exact (by repeat (first | (with_reducible first | exact HB.out | apply below_alloc | apply pw_below_drewN | apply below_drew1) | exact HB.out))); (case aF => exact (fun k_ hk => Kd.fresh' (Kd.R_lt (by (with_reducible repeat (first | apply Kd.R_alloc | apply Kd.R_drewN | apply Kd.R_drew)); exact HO151.out)) k_ hk)); (case aO => exact (by (with_reducible repeat (first | apply Kd.R_alloc | apply Kd.R_drewN | apply Kd.R_drew)); exact Kd.R_mono HO_4.out (fun _ hk => hk.2))); (case aS => exact (below_size (by repeat (first | (with_reducible first | exact HB.out | apply below_alloc | apply pw_below_drewN | apply below_drew1) | exact HB.out)))); (case aL => have := LMc16.out; omega); intro v153 w20 ho hb hg hat; rw [← Ny152.out] at ho; have n0_ := Aside0.mk (Kd.R_after (ok := (fun _ => True)) (by (with_reducible repeat (first | apply Kd.R_alloc | apply Kd.R_drewN | apply Kd.R_drew)); exact HO151.out) hg hat); have n1_ := Aside0.mk (hb); have n2_ := Aside0.mk (ho); clear HO151; clear HB; clear HO_4; have HO151 := n0_; have HB := n1_; have HO154 := n2_; clear n0_ n1_ n2_; clear ho hb hg hat))
         go_roundg k1
         case measure => have := HK1.out; omega
         case rel => exact ⟨(y152), (x5_1.extract (t149 : Int).toNat x5_1.size), (by first | rfl | (simp; done) | (simp [*]; done)), H', ⟨by have := HK1.out; omega⟩, ⟨by (with_reducible repeat (first | apply Kd.R_alloc | apply Kd.R_drewN | apply Kd.R_drew)); exact Kd.R_mono HO154.out (fun _ hk => trivial)⟩, ⟨by repeat (first | (with_reducible first | exact HB.out | apply below_alloc | apply pw_below_drewN | apply below_drew1) | exact HB.out)⟩⟩
        ·rw [if_neg c18] at H
         exact absurd H (by simp)
       ·rw [if_neg c17] at H
        exact absurd H (by simp)
      ·rw [if_neg c16] at H
       exact absurd H (by simp)

end Go.Proofs.YtcgpaopbcclbiaaDoor.Fn
end
section
-- Written by printx.py, a program of this session over the kit's print: each Go function as a plain Lean function, and that the Go code computes it.




namespace Go.Proofs.YtcgpaopbcclbiaaDoor.Fn
open Go.RowKit Go.Proofs.YtcgpaopbcclbiaaDoorW.PrintWords Go.Proofs.YtcgpaopbcclbiaaDoorW.PrintLast Go.Proofs.YtcgpaopbcclbiaaDoorW.PrintMore Go.Proofs.YtcgpaopbcclbiaaDoor.Lf
attribute [local go_sem] max2_int min2_int max_two min_two max_three min_three max_four min_four   -- for this text's walks alone
set_option linter.unusedVariables false
set_option linter.unusedSimpArgs false

/-! ### rootcellarlaw1_LabelQuotes: function 3 -/
def rootcellarlaw1_LabelQuotes.j0 : Nat → ByteArray → Bool → Bool → Option (Bool)
 | 0, _, _, _ => none
 | k + 1, x0, x3, x15 => if x15 = true then (some x3) else ((label_Unquote.f x0).bind fun bt156 => ((rootcellarref1_Unquote.f k x0).bind fun bt158 => ((label_Quote.f x0).bind fun t160 => ((rootcellarref1_Quote.f k x0).bind fun t161 => (if t160.toList = t161.toList then (if bt156.1.toList = bt158.1.toList then (some (bt156.2 == bt158.2)) else (some false)) else (some false))))))
def rootcellarlaw1_LabelQuotes.f (k : Nat) (a0 : ByteArray) : Option (Bool) := (rootcellarlaw1_shown.f).bind fun t155 => (if t155 = true then (rootcellarlaw1_LabelQuotes.j0 k a0 t155 (decide ((a0.size : Int) > 600))) else (rootcellarlaw1_LabelQuotes.j0 k a0 t155 true))
theorem rootcellarlaw1_LabelQuotes.mono_l : ∀ k, (∀ y0 y1 y2, LeO (rootcellarlaw1_LabelQuotes.j0 k y0 y1 y2) (rootcellarlaw1_LabelQuotes.j0 (k + 1) y0 y1 y2))
 | 0 => fun _ _ _ r h => by simp [rootcellarlaw1_LabelQuotes.j0] at h
 | k + 1 => by
  have ih0 := rootcellarlaw1_LabelQuotes.mono_l k
  ·intro y0 y1 y2
   unfold rootcellarlaw1_LabelQuotes.j0
   repeat' first
   | (with_reducible exact ih0 _ _ _)
   | (with_reducible exact rootcellarref1_Quote.mono _ _)
   | (with_reducible exact rootcellarref1_Unquote.mono _ _)
   | (with_reducible exact LeO.refl _)
   | (with_reducible exact LeO.none _)
   | (with_reducible refine LeO.ite ?_ ?_)
   | (with_reducible refine LeO.bind ?_ (fun _ => ?_))
   | exact ih0 _ _ _
   | exact rootcellarref1_Quote.mono _ _
   | exact rootcellarref1_Unquote.mono _ _
   | exact LeO.none _
   | refine LeO.ite ?_ ?_
   | refine LeO.bind ?_ (fun _ => ?_)
theorem rootcellarlaw1_LabelQuotes.mono : ∀ a0 k, LeO (rootcellarlaw1_LabelQuotes.f k a0) (rootcellarlaw1_LabelQuotes.f (k + 1) a0) := by
 intro a0 k
 have ih0 := rootcellarlaw1_LabelQuotes.mono_l k
 unfold rootcellarlaw1_LabelQuotes.f
 repeat' first
   | (with_reducible exact ih0 _ _ _)
   | (with_reducible exact rootcellarref1_Quote.mono _ _)
   | (with_reducible exact rootcellarref1_Unquote.mono _ _)
   | (with_reducible exact LeO.refl _)
   | (with_reducible exact LeO.none _)
   | (with_reducible refine LeO.ite ?_ ?_)
   | (with_reducible refine LeO.bind ?_ (fun _ => ?_))
   | exact ih0 _ _ _
   | exact rootcellarref1_Quote.mono _ _
   | exact rootcellarref1_Unquote.mono _ _
   | exact LeO.none _
   | refine LeO.ite ?_ ?_
   | refine LeO.bind ?_ (fun _ => ?_)
set_option maxHeartbeats 8000000 in
set_option maxRecDepth 100000 in
theorem rootcellarlaw1_LabelQuotes.calls (k : Nat) (a0 : ByteArray) (r : Bool) (w : World) (h : rootcellarlaw1_LabelQuotes.f k a0 = some r) (HT : Tabs w) :
  Calls Tryd.prog 3 #[.string a0] w fun e w' => e = .returned (.bool r) ∧ Below w.heap.size w w' := by
 have HB := Aside0.mk (Below.refl w.heap.size w)
 have H : ((rootcellarlaw1_shown.f).bind fun t155 => (if t155 = true then (rootcellarlaw1_LabelQuotes.j0 k a0 t155 (decide ((a0.size : Int) > 600))) else (rootcellarlaw1_LabelQuotes.j0 k a0 t155 true))) = some r := h
 clear h
 replace H := Option.bind_eq_some_iff.mp H
 obtain ⟨t155, A20, H⟩ := H
 replace H : (if t155 = true then (rootcellarlaw1_LabelQuotes.j0 k a0 t155 (decide ((a0.size : Int) > 600))) else (rootcellarlaw1_LabelQuotes.j0 k a0 t155 true)) = some r := H
 have A2 := Aside0.mk A20
 clear A20
 have HC3 := Aside0.mk H
 clear H
 go_enter Tryd.func3, Tryd.ntmps3
 go_upto_region 2 with (first | ((with_reducible refine gate_callee (f := 5) rfl ?_); refine goesL_ (some 8) rfl rfl Tryd.func5 (by kernel_rfl) rfl #[] rfl (by (try simp only [List.map_toArray, List.map_cons, List.map_nil]); first | done | rfl | (simp only [List.length_drop, List.length_take]; rfl) | (rw [wrap_sum2 (by assumption)]; rfl)) ?_; (with_reducible refine (rootcellarlaw1_shown.calls  t155 _ A2.out (HT.below (by repeat (first | (with_reducible first | exact HB.out | apply below_alloc | apply pw_below_drewN | apply below_drew1) | exact HB.out)))).mono ?_); rintro e w4 ⟨rfl, hb⟩; refine ⟨_, rfl, ?_⟩; have n0_ := Aside0.mk (below_step (by repeat (first | (with_reducible first | exact HB.out | apply below_alloc | apply pw_below_drewN | apply below_drew1) | exact HB.out)) hb); clear HB; have HB := n0_; clear n0_; (try clear hb); (try clear hb2); (try clear hk); (try clear hi)))
 (try simp only [Act.put, List.setIfInBounds_toArray, List.set_cons_zero, List.set_cons_succ])
 go_cut [15] (fun v15 wc => ∃ (kq : Nat) (x15_2 : Bool), v15 = .bool x15_2 ∧ Aside0 (rootcellarlaw1_LabelQuotes.j0 kq a0 t155 x15_2 = some r) ∧ Aside0 (kq ≤ k) ∧ Aside0 (Below w.heap.size w wc))
 case first =>
  have H := HC3.out
  clear HC3
  by_cases c5 : t155 = true
  ·subst c5
   have H1 : (rootcellarlaw1_LabelQuotes.j0 k a0 true (decide ((a0.size : Int) > 600))) = some r := by rw [if_pos rfl] at H; exact H
   clear H
   have H := H1
   clear H1
   have H' := Aside0.mk H
   clear H
   go_wp2
   go_meet
   case rel => exact ⟨_, (decide ((a0.size : Int) > 600)), (by first | rfl | (simp; done) | (simp [*]; done)), H', ⟨by first | omega | exact Nat.le_refl _⟩, ⟨by repeat (first | (with_reducible first | exact HB.out | apply below_alloc | apply pw_below_drewN | apply below_drew1) | exact HB.out)⟩⟩
  ·replace c5 := Bool.eq_false_iff.mpr c5
   subst c5
   have H1 : (rootcellarlaw1_LabelQuotes.j0 k a0 false true) = some r := by rw [if_neg (show ¬ (false = true) by decide)] at H; exact H
   clear H
   have H := H1
   clear H1
   have H' := Aside0.mk H
   clear H
   go_wp2
   go_meet
   case rel => exact ⟨_, (true), (by first | rfl | (simp; done) | (simp [*]; done)), H', ⟨by first | omega | exact Nat.le_refl _⟩, ⟨by repeat (first | (with_reducible first | exact HB.out | apply below_alloc | apply pw_below_drewN | apply below_drew1) | exact HB.out)⟩⟩
 case rest =>
  clear HC3
  try clear p2
  try clear c3
  try clear c5
  obtain ⟨kq, x15_2, rfl, HA, HJ2, HB⟩ := hcut
  cases kq with
  | zero => exact absurd HA.out (by simp [rootcellarlaw1_LabelQuotes.j0])
  | succ kj2 =>
   have H := HA.out
   clear HA
   simp only [rootcellarlaw1_LabelQuotes.j0] at H
   by_cases c6 : x15_2 = true
   ·subst c6
    have H1 : (some t155) = some r := by rw [if_pos rfl] at H; exact H
    clear H
    have H := H1
    clear H1
    obtain rfl := Option.some.inj H
    go_wp2
    go_ret
    exact ⟨by first | rfl | (simp [errW_none, errW_some] <;> rfl) | (simp [*, errW_none, errW_some] <;> rfl), by repeat (first | (with_reducible first | exact HB.out | apply below_alloc | apply pw_below_drewN | apply below_drew1) | exact HB.out)⟩
   ·replace c6 := Bool.eq_false_iff.mpr c6
    subst c6
    have H1 : ((label_Unquote.f a0).bind fun bt156 => ((rootcellarref1_Unquote.f kj2 a0).bind fun bt158 => ((label_Quote.f a0).bind fun t160 => ((rootcellarref1_Quote.f kj2 a0).bind fun t161 => (if t160.toList = t161.toList then (if bt156.1.toList = bt158.1.toList then (some (bt156.2 == bt158.2)) else (some false)) else (some false)))))) = some r := by rw [if_neg (show ¬ (false = true) by decide)] at H; exact H
    clear H
    have H := H1
    clear H1
    replace H := Option.bind_eq_some_iff.mp H
    obtain ⟨⟨t156, t157⟩, A70, H⟩ := H
    replace H : ((rootcellarref1_Unquote.f kj2 a0).bind fun bt158 => ((label_Quote.f a0).bind fun t160 => ((rootcellarref1_Quote.f kj2 a0).bind fun t161 => (if t160.toList = t161.toList then (if t156.toList = bt158.1.toList then (some (t157 == bt158.2)) else (some false)) else (some false))))) = some r := H
    have A7 := Aside0.mk A70
    clear A70
    replace H := Option.bind_eq_some_iff.mp H
    obtain ⟨⟨t158, t159⟩, A80, H⟩ := H
    replace H : ((label_Quote.f a0).bind fun t160 => ((rootcellarref1_Quote.f kj2 a0).bind fun t161 => (if t160.toList = t161.toList then (if t156.toList = t158.toList then (some (t157 == t159)) else (some false)) else (some false)))) = some r := H
    have A8 := Aside0.mk A80
    clear A80
    replace H := Option.bind_eq_some_iff.mp H
    obtain ⟨t160, A90, H⟩ := H
    replace H : ((rootcellarref1_Quote.f kj2 a0).bind fun t161 => (if t160.toList = t161.toList then (if t156.toList = t158.toList then (some (t157 == t159)) else (some false)) else (some false))) = some r := H
    have A9 := Aside0.mk A90
    clear A90
    replace H := Option.bind_eq_some_iff.mp H
    obtain ⟨t161, A100, H⟩ := H
    replace H : (if t160.toList = t161.toList then (if t156.toList = t158.toList then (some (t157 == t159)) else (some false)) else (some false)) = some r := H
    have A10 := Aside0.mk A100
    clear A100
    by_cases c11 : t160.toList = t161.toList
    ·rw [if_pos c11] at H
     have c11b0 : (t160.toList == t161.toList) = true := beq_iff_eq.mpr c11
     have c11b1 : (t160.toList != t161.toList) = false := bne_eq_false_iff_eq.mpr c11
     clear c11
     by_cases c12 : t156.toList = t158.toList
     ·rw [if_pos c12] at H
      have c12b0 : (t156.toList == t158.toList) = true := beq_iff_eq.mpr c12
      have c12b1 : (t156.toList != t158.toList) = false := bne_eq_false_iff_eq.mpr c12
      clear c12
      obtain rfl := Option.some.inj H
      go_wp2_with (first | ((with_reducible refine gate_callee (f := 6) rfl ?_); refine goesL_ (some 19) rfl rfl Tryd.func6 (by kernel_rfl) rfl #[.string a0] rfl (by (try simp only [List.map_toArray, List.map_cons, List.map_nil]); first | done | rfl | (simp only [List.length_drop, List.length_take]; rfl) | (rw [wrap_sum2 (by assumption)]; rfl)) ?_; (with_reducible refine (label_Unquote.calls a0 t156 t157 _ A7.out (HT.below (by repeat (first | (with_reducible first | exact HB.out | apply below_alloc | apply pw_below_drewN | apply below_drew1) | exact HB.out)))).mono ?_); rintro e w13 ⟨rfl, hb⟩; refine ⟨_, rfl, ?_⟩; have n0_ := Aside0.mk (below_step (by repeat (first | (with_reducible first | exact HB.out | apply below_alloc | apply pw_below_drewN | apply below_drew1) | exact HB.out)) hb); clear HB; have HB := n0_; clear n0_; (try clear hb); (try clear hb2); (try clear hk); (try clear hi)) | ((with_reducible refine gate_callee (f := 7) rfl ?_); refine goesL_ (some 24) rfl rfl Tryd.func7 (by kernel_rfl) rfl #[.string a0] rfl (by (try simp only [List.map_toArray, List.map_cons, List.map_nil]); first | done | rfl | (simp only [List.length_drop, List.length_take]; rfl) | (rw [wrap_sum2 (by assumption)]; rfl)) ?_; (with_reducible refine (rootcellarref1_Unquote.calls kj2 a0 t158 t159 _ A8.out).mono ?_); rintro e w14 ⟨rfl, hb⟩; refine ⟨_, rfl, ?_⟩; have n0_ := Aside0.mk (below_step (by repeat (first | (with_reducible first | exact HB.out | apply below_alloc | apply pw_below_drewN | apply below_drew1) | exact HB.out)) hb); clear HB; have HB := n0_; clear n0_; (try clear hb); (try clear hb2); (try clear hk); (try clear hi)) | ((with_reducible refine gate_callee (f := 8) rfl ?_); refine goesL_ (some 28) rfl rfl Tryd.func8 (by kernel_rfl) rfl #[.string a0] rfl (by (try simp only [List.map_toArray, List.map_cons, List.map_nil]); first | done | rfl | (simp only [List.length_drop, List.length_take]; rfl) | (rw [wrap_sum2 (by assumption)]; rfl)) ?_; (with_reducible refine (label_Quote.calls a0 t160 _ A9.out (HT.below (by repeat (first | (with_reducible first | exact HB.out | apply below_alloc | apply pw_below_drewN | apply below_drew1) | exact HB.out)))).mono ?_); rintro e w15 ⟨rfl, hb⟩; refine ⟨_, rfl, ?_⟩; have n0_ := Aside0.mk (below_step (by repeat (first | (with_reducible first | exact HB.out | apply below_alloc | apply pw_below_drewN | apply below_drew1) | exact HB.out)) hb); clear HB; have HB := n0_; clear n0_; (try clear hb); (try clear hb2); (try clear hk); (try clear hi)) | ((with_reducible refine gate_callee (f := 9) rfl ?_); refine goesL_ (some 30) rfl rfl Tryd.func9 (by kernel_rfl) rfl #[.string a0] rfl (by (try simp only [List.map_toArray, List.map_cons, List.map_nil]); first | done | rfl | (simp only [List.length_drop, List.length_take]; rfl) | (rw [wrap_sum2 (by assumption)]; rfl)) ?_; (with_reducible refine (rootcellarref1_Quote.calls kj2 a0 t161 _ A10.out).mono ?_); rintro e w' ⟨rfl, ⟨nd, rfl⟩⟩; refine ⟨_, rfl, ?_⟩))
      go_ret
      exact ⟨by first | rfl | (simp [errW_none, errW_some] <;> rfl) | (simp [*, errW_none, errW_some] <;> rfl), by repeat (first | (with_reducible first | exact HB.out | apply below_alloc | apply pw_below_drewN | apply below_drew1) | exact HB.out)⟩
     ·rw [if_neg c12] at H
      have c12b0 : (t156.toList == t158.toList) = false := beq_eq_false_iff_ne.mpr c12
      have c12b1 : (t156.toList != t158.toList) = true := bne_iff_ne.mpr c12
      obtain rfl := Option.some.inj H
      go_wp2_with (first | ((with_reducible refine gate_callee (f := 6) rfl ?_); refine goesL_ (some 19) rfl rfl Tryd.func6 (by kernel_rfl) rfl #[.string a0] rfl (by (try simp only [List.map_toArray, List.map_cons, List.map_nil]); first | done | rfl | (simp only [List.length_drop, List.length_take]; rfl) | (rw [wrap_sum2 (by assumption)]; rfl)) ?_; (with_reducible refine (label_Unquote.calls a0 t156 t157 _ A7.out (HT.below (by repeat (first | (with_reducible first | exact HB.out | apply below_alloc | apply pw_below_drewN | apply below_drew1) | exact HB.out)))).mono ?_); rintro e w16 ⟨rfl, hb⟩; refine ⟨_, rfl, ?_⟩; have n0_ := Aside0.mk (below_step (by repeat (first | (with_reducible first | exact HB.out | apply below_alloc | apply pw_below_drewN | apply below_drew1) | exact HB.out)) hb); clear HB; have HB := n0_; clear n0_; (try clear hb); (try clear hb2); (try clear hk); (try clear hi)) | ((with_reducible refine gate_callee (f := 7) rfl ?_); refine goesL_ (some 24) rfl rfl Tryd.func7 (by kernel_rfl) rfl #[.string a0] rfl (by (try simp only [List.map_toArray, List.map_cons, List.map_nil]); first | done | rfl | (simp only [List.length_drop, List.length_take]; rfl) | (rw [wrap_sum2 (by assumption)]; rfl)) ?_; (with_reducible refine (rootcellarref1_Unquote.calls kj2 a0 t158 t159 _ A8.out).mono ?_); rintro e w17 ⟨rfl, hb⟩; refine ⟨_, rfl, ?_⟩; have n0_ := Aside0.mk (below_step (by repeat (first | (with_reducible first | exact HB.out | apply below_alloc | apply pw_below_drewN | apply below_drew1) | exact HB.out)) hb); clear HB; have HB := n0_; clear n0_; (try clear hb); (try clear hb2); (try clear hk); (try clear hi)) | ((with_reducible refine gate_callee (f := 8) rfl ?_); refine goesL_ (some 28) rfl rfl Tryd.func8 (by kernel_rfl) rfl #[.string a0] rfl (by (try simp only [List.map_toArray, List.map_cons, List.map_nil]); first | done | rfl | (simp only [List.length_drop, List.length_take]; rfl) | (rw [wrap_sum2 (by assumption)]; rfl)) ?_; (with_reducible refine (label_Quote.calls a0 t160 _ A9.out (HT.below (by repeat (first | (with_reducible first | exact HB.out | apply below_alloc | apply pw_below_drewN | apply below_drew1) | exact HB.out)))).mono ?_); rintro e w18 ⟨rfl, hb⟩; refine ⟨_, rfl, ?_⟩; have n0_ := Aside0.mk (below_step (by repeat (first | (with_reducible first | exact HB.out | apply below_alloc | apply pw_below_drewN | apply below_drew1) | exact HB.out)) hb); clear HB; have HB := n0_; clear n0_; (try clear hb); (try clear hb2); (try clear hk); (try clear hi)) | ((with_reducible refine gate_callee (f := 9) rfl ?_); refine goesL_ (some 30) rfl rfl Tryd.func9 (by kernel_rfl) rfl #[.string a0] rfl (by (try simp only [List.map_toArray, List.map_cons, List.map_nil]); first | done | rfl | (simp only [List.length_drop, List.length_take]; rfl) | (rw [wrap_sum2 (by assumption)]; rfl)) ?_; (with_reducible refine (rootcellarref1_Quote.calls kj2 a0 t161 _ A10.out).mono ?_); rintro e w' ⟨rfl, ⟨nd, rfl⟩⟩; refine ⟨_, rfl, ?_⟩))
      go_ret
      exact ⟨by first | rfl | (simp [errW_none, errW_some] <;> rfl) | (simp [*, errW_none, errW_some] <;> rfl), by repeat (first | (with_reducible first | exact HB.out | apply below_alloc | apply pw_below_drewN | apply below_drew1) | exact HB.out)⟩
    ·rw [if_neg c11] at H
     have c11b0 : (t160.toList == t161.toList) = false := beq_eq_false_iff_ne.mpr c11
     have c11b1 : (t160.toList != t161.toList) = true := bne_iff_ne.mpr c11
     obtain rfl := Option.some.inj H
     go_wp2_with (first | ((with_reducible refine gate_callee (f := 6) rfl ?_); refine goesL_ (some 19) rfl rfl Tryd.func6 (by kernel_rfl) rfl #[.string a0] rfl (by (try simp only [List.map_toArray, List.map_cons, List.map_nil]); first | done | rfl | (simp only [List.length_drop, List.length_take]; rfl) | (rw [wrap_sum2 (by assumption)]; rfl)) ?_; (with_reducible refine (label_Unquote.calls a0 t156 t157 _ A7.out (HT.below (by repeat (first | (with_reducible first | exact HB.out | apply below_alloc | apply pw_below_drewN | apply below_drew1) | exact HB.out)))).mono ?_); rintro e w19 ⟨rfl, hb⟩; refine ⟨_, rfl, ?_⟩; have n0_ := Aside0.mk (below_step (by repeat (first | (with_reducible first | exact HB.out | apply below_alloc | apply pw_below_drewN | apply below_drew1) | exact HB.out)) hb); clear HB; have HB := n0_; clear n0_; (try clear hb); (try clear hb2); (try clear hk); (try clear hi)) | ((with_reducible refine gate_callee (f := 7) rfl ?_); refine goesL_ (some 24) rfl rfl Tryd.func7 (by kernel_rfl) rfl #[.string a0] rfl (by (try simp only [List.map_toArray, List.map_cons, List.map_nil]); first | done | rfl | (simp only [List.length_drop, List.length_take]; rfl) | (rw [wrap_sum2 (by assumption)]; rfl)) ?_; (with_reducible refine (rootcellarref1_Unquote.calls kj2 a0 t158 t159 _ A8.out).mono ?_); rintro e w20 ⟨rfl, hb⟩; refine ⟨_, rfl, ?_⟩; have n0_ := Aside0.mk (below_step (by repeat (first | (with_reducible first | exact HB.out | apply below_alloc | apply pw_below_drewN | apply below_drew1) | exact HB.out)) hb); clear HB; have HB := n0_; clear n0_; (try clear hb); (try clear hb2); (try clear hk); (try clear hi)) | ((with_reducible refine gate_callee (f := 8) rfl ?_); refine goesL_ (some 28) rfl rfl Tryd.func8 (by kernel_rfl) rfl #[.string a0] rfl (by (try simp only [List.map_toArray, List.map_cons, List.map_nil]); first | done | rfl | (simp only [List.length_drop, List.length_take]; rfl) | (rw [wrap_sum2 (by assumption)]; rfl)) ?_; (with_reducible refine (label_Quote.calls a0 t160 _ A9.out (HT.below (by repeat (first | (with_reducible first | exact HB.out | apply below_alloc | apply pw_below_drewN | apply below_drew1) | exact HB.out)))).mono ?_); rintro e w21 ⟨rfl, hb⟩; refine ⟨_, rfl, ?_⟩; have n0_ := Aside0.mk (below_step (by repeat (first | (with_reducible first | exact HB.out | apply below_alloc | apply pw_below_drewN | apply below_drew1) | exact HB.out)) hb); clear HB; have HB := n0_; clear n0_; (try clear hb); (try clear hb2); (try clear hk); (try clear hi)) | ((with_reducible refine gate_callee (f := 9) rfl ?_); refine goesL_ (some 30) rfl rfl Tryd.func9 (by kernel_rfl) rfl #[.string a0] rfl (by (try simp only [List.map_toArray, List.map_cons, List.map_nil]); first | done | rfl | (simp only [List.length_drop, List.length_take]; rfl) | (rw [wrap_sum2 (by assumption)]; rfl)) ?_; (with_reducible refine (rootcellarref1_Quote.calls kj2 a0 t161 _ A10.out).mono ?_); rintro e w' ⟨rfl, ⟨nd, rfl⟩⟩; refine ⟨_, rfl, ?_⟩))
     go_ret
     exact ⟨by first | rfl | (simp [errW_none, errW_some] <;> rfl) | (simp [*, errW_none, errW_some] <;> rfl), by repeat (first | (with_reducible first | exact HB.out | apply below_alloc | apply pw_below_drewN | apply below_drew1) | exact HB.out)⟩


end Go.Proofs.YtcgpaopbcclbiaaDoor.Fn
end
