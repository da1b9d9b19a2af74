-- Packed by pack.py, a program of this session, out of texts of this claim.
import Derived.Test.YtcgejogmiglalaaDoorClHeadApart1
section
-- Written by printx.py, a program of this session over the kit's print: each Go function as a plain Lean function, and that the Go code computes it.
namespace Go.Proofs.YtcgejogmiglalaaDoor.Fn
open Go.RowKit Go.Proofs.YtcgejogmiglalaaDoorW.PrintWords Go.Proofs.YtcgejogmiglalaaDoorW.PrintLast Go.Proofs.YtcgejogmiglalaaDoorW.PrintMore Go.Proofs.YtcgejogmiglalaaDoor.Lf
open List (setIfInBounds_toArray set_cons_zero set_cons_succ)
attribute [local go_sem] max2_int min2_int max_two min_two max_three min_three max_four min_four   -- for this text's walks alone
set_option linter.unusedVariables false
set_option linter.unusedSimpArgs false
def l6_shown.j0 : Nat → ByteArray → ByteArray → Bool → Option (Bool)
 | 0, _, _, _ => none
 | k + 1, x1, x3, x38 => if x38 = true then (some false) else ((head_Choose.f k x1 x3).bind fun bt144 => (if 1 ≤ (x3.size : Int) then (if 1 + (x3.size - 1) ≤ 9223372036854775807 then ((head_Choose.f k x1 ((⟨#[113]⟩ : ByteArray) ++ (x3.extract 1 x3.size))).bind fun bt153 => (if bt144.1 = 8 then (if bt144.2.2.2.2.1 = 1 then (if bt144.2.2.2.2.2 = 0 then (if bt153.1 = 7 then (if bt153.2.2.2.2.1 = 0 then (if bt153.2.2.2.2.2 = 0 then (some (bt153.2.2.1 == 65)) else (some false)) else (some false)) else (some false)) else (some false)) else (some false)) else (some false))) else (none)) else (none)))
def l6_shown.f (k : Nat)  : Option (Bool) := (head_Put.f k 7 9 65 (([(⟨2, 2⟩ : S53)] : List (S53)))).bind fun bt140 => ((head_Put.f k 8 9 0 ([] : List (S53))).bind fun bt142 => (if (bt140.1.size : Int) = 64 then (if (bt142.1.size : Int) = 64 then (if bt140.2 = 0 then (l6_shown.j0 k bt140.1 bt142.1 (bt142.2 != 0)) else (l6_shown.j0 k bt140.1 bt142.1 true)) else (l6_shown.j0 k bt140.1 bt142.1 true)) else (l6_shown.j0 k bt140.1 bt142.1 true)))
theorem l6_shown.mono_l : ∀ k, (∀ y0 y1 y2, LeO (l6_shown.j0 k y0 y1 y2) (l6_shown.j0 (k + 1) y0 y1 y2))
 | 0 => fun _ _ _ r h => by simp [l6_shown.j0] at h
 | k + 1 => by
  have ih0 := l6_shown.mono_l k
  ·intro y0 y1 y2
   unfold l6_shown.j0
   repeat' first
   | (with_reducible exact ih0 _ _ _)
   | (with_reducible exact head_Choose.mono _ _ _)
   | (with_reducible exact head_Put.mono _ _ _ _ _)
   | (with_reducible exact LeO.refl _)
   | (with_reducible exact LeO.none _)
   | (with_reducible refine LeO.ite ?_ ?_)
   | (with_reducible refine LeO.bind ?_ (fun _ => ?_))
   | exact ih0 _ _ _
   | exact head_Choose.mono _ _ _
   | exact head_Put.mono _ _ _ _ _
   | exact LeO.none _
   | refine LeO.ite ?_ ?_
   | refine LeO.bind ?_ (fun _ => ?_)
theorem l6_shown.mono : ∀ k, LeO (l6_shown.f k ) (l6_shown.f (k + 1) ) := by
 intro  k
 have ih0 := l6_shown.mono_l k
 unfold l6_shown.f
 repeat' first
   | (with_reducible exact ih0 _ _ _)
   | (with_reducible exact head_Choose.mono _ _ _)
   | (with_reducible exact head_Put.mono _ _ _ _ _)
   | (with_reducible exact LeO.refl _)
   | (with_reducible exact LeO.none _)
   | (with_reducible refine LeO.ite ?_ ?_)
   | (with_reducible refine LeO.bind ?_ (fun _ => ?_))
   | exact ih0 _ _ _
   | exact head_Choose.mono _ _ _
   | exact head_Put.mono _ _ _ _ _
   | exact LeO.none _
   | refine LeO.ite ?_ ?_
   | refine LeO.bind ?_ (fun _ => ?_)
set_option maxHeartbeats 8000000 in
set_option maxRecDepth 100000 in
theorem l6_shown.calls (k : Nat)  (r : Bool) (w : World) (h : l6_shown.f k  = some r) :
  Calls Tryd.prog 9 #[] w fun e w' => e = .returned (.bool r) ∧ Below w.heap.size w w' := by
 have hu53 := Tryd.underlying53
 have hu25 := Tryd.underlying25
 have HB := Ax.mk (Below.refl w.heap.size w)
 have H : ((head_Put.f k 7 9 65 (([(⟨2, 2⟩ : S53)] : List (S53)))).bind fun bt140 => ((head_Put.f k 8 9 0 ([] : List (S53))).bind fun bt142 => (if (bt140.1.size : Int) = 64 then (if (bt142.1.size : Int) = 64 then (if bt140.2 = 0 then (l6_shown.j0 k bt140.1 bt142.1 (bt142.2 != 0)) else (l6_shown.j0 k bt140.1 bt142.1 true)) else (l6_shown.j0 k bt140.1 bt142.1 true)) else (l6_shown.j0 k bt140.1 bt142.1 true)))) = some r := h
 clear h
 obtain ⟨y137, hy137⟩ : ∃ y_ : List (S53), y_ = (([(⟨2, 2⟩ : S53)] : List (S53))) := ⟨_, rfl⟩
 replace H : ((head_Put.f k 7 9 65 y137).bind fun bt140 => ((head_Put.f k 8 9 0 ([] : List (S53))).bind fun bt142 => (if (bt140.1.size : Int) = 64 then (if (bt142.1.size : Int) = 64 then (if bt140.2 = 0 then (l6_shown.j0 k bt140.1 bt142.1 (bt142.2 != 0)) else (l6_shown.j0 k bt140.1 bt142.1 true)) else (l6_shown.j0 k bt140.1 bt142.1 true)) else (l6_shown.j0 k bt140.1 bt142.1 true)))) = some r := by first | (rw [hy137]; with_reducible exact H) | (have H2_ := (Option.bind_some _ _).symm.trans H; rw [hy137]; with_reducible exact H2_) | (have H2_ := (Option.bind_some _ _).symm.trans H; with_reducible exact H2_) | with_reducible exact H | (rw [hy137]; exact H) | exact H
 have Ny137 := Ax.mk hy137
 clear hy137
 replace H := Option.bind_eq_some_iff.mp H
 obtain ⟨⟨t140, t141⟩, A10, H⟩ := H
 replace H : ((head_Put.f k 8 9 0 ([] : List (S53))).bind fun bt142 => (if (t140.size : Int) = 64 then (if (bt142.1.size : Int) = 64 then (if t141 = 0 then (l6_shown.j0 k t140 bt142.1 (bt142.2 != 0)) else (l6_shown.j0 k t140 bt142.1 true)) else (l6_shown.j0 k t140 bt142.1 true)) else (l6_shown.j0 k t140 bt142.1 true))) = some r := H
 have A1 := Ax.mk A10
 clear A10
 replace H := Option.bind_eq_some_iff.mp H
 obtain ⟨⟨t142, t143⟩, A20, H⟩ := H
 replace H : (if (t140.size : Int) = 64 then (if (t142.size : Int) = 64 then (if t141 = 0 then (l6_shown.j0 k t140 t142 (t143 != 0)) else (l6_shown.j0 k t140 t142 true)) else (l6_shown.j0 k t140 t142 true)) else (l6_shown.j0 k t140 t142 true)) = some r := H
 have A2 := Ax.mk A20
 clear A20
 have HC3 := Ax.mk H
 clear H
 go_enter Tryd.func9, Tryd.ntmps9
 go_upto_region 3 with (first | ((with_reducible refine gate_dst (N := 13) rfl ?_); (try (refine gate_guard (by rfl) ?_; dsimp only)); refine Kd.R_lit k53 _ 53 ?hg (N := 13) ?hd (xs := ([(⟨2, 2⟩ : S53)] : List (S53))) (inner := [.int .i64 2, .int .i64 2]) (ok := fun _ => True) (okp := fun _ => True) ?hr ?hp (fun _ hk => hk) trivial (Below.refl _ _) (Nat.le_refl _) (by simp) ?_; (case hd => rfl); (case hg => rfl); (case hr => first | (go_simp; done) | (go_simp; rfl)); (case hp => exact (Reps.c2 (show Kd.M k53 _ _ _ (⟨2, 2⟩ : S53) [.int .i64 2, .int .i64 2] from (k53_mkM _ _ _ (⟨2, 2⟩ : S53) )) (Reps.none _ _))); intro v138 w4 ho5 hb hg_ hnew_; clear hg_ hnew_; (first | rw [← Ny137.out] at ho5 | (simp only [Int.reduceToNat] at ho5; rw [← Ny137.out] at ho5)); have n0_ := Ax.mk (Kd.R_lower ho5 (bS bA)); have n1_ := Ax.mk (bP bA hb); clear HB; have HO139 := n0_; have HB := n1_; clear n0_ n1_; clear hb ho5; obtain ⟨Ao6, co6, eo6⟩ := Kd.R_slice HO139.out; subst eo6) | ((with_reducible refine gate_callee (f := 10) rfl ?_); refine goesL_ (some 15) rfl rfl Tryd.func10 (by kernel_rfl) rfl #[.agg #[.int .u64 7, .int .i64 9, .int .i64 65, .slice Ao6 y137.length co6]] rfl (by (try simp only [List.map_toArray, List.map_cons, List.map_nil]); first | done | rfl | (simp only [List.length_drop, List.length_take]; rfl) | (rw [wrap_sum2 (by assumption)]; rfl)) ?_; (with_reducible refine (head_Put.calls k 7 9 65 _ _ y137 t140 t141 _ ?side1 ?side2 A1.out).mono ?_); (case side1 => repeat (first | exact (Kd.R_reads' HO139.out).2.2 | (with_reducible refine Kd.C_alloc ?_ _) | (with_reducible refine Kd.C_drewN ?_ _) | (with_reducible refine Kd.C_drew ?_))); (case side2 => exact (Kd.R_reads' HO139.out).2.1); rintro e w7 ⟨rfl, hb⟩; refine ⟨_, rfl, ?_⟩; have n0_ := Ax.mk (Kd.R_below (by exact Kd.R_to HO139.out) hb); have n1_ := Ax.mk (bP bA hb); clear HO139; clear HB; have HO139 := n0_; have HB := n1_; clear n0_ n1_; (try clear hb); (try clear hb2); (try clear hk); (try clear hi)) | ((with_reducible refine gate_callee (f := 10) rfl ?_); refine goesL_ (some 20) rfl rfl Tryd.func10 (by kernel_rfl) rfl #[.agg #[.int .u64 8, .int .i64 9, .int .i64 0, .slice none 0 0]] rfl (by (try simp only [List.map_toArray, List.map_cons, List.map_nil]); first | done | rfl | (simp only [List.length_drop, List.length_take]; rfl) | (rw [wrap_sum2 (by assumption)]; rfl)) ?_; (refine (head_Put.calls k 8 9 0 _ _ ([] : List (S53)) t142 t143 _ ?side1 ?side2 A2.out).mono ?_); (case side1 => exact Kd.C_nil _ _); (case side2 => exact Nat.le_refl _); rintro e w8 ⟨rfl, hb⟩; refine ⟨_, rfl, ?_⟩; have n0_ := Ax.mk (Kd.R_below (by exact Kd.R_to HO139.out) hb); have n1_ := Ax.mk (bP bA hb); clear HO139; clear HB; have HO139 := n0_; have HB := n1_; clear n0_ n1_; (try clear hb); (try clear hb2); (try clear hk); (try clear hi)))
 (try simp only [Act.put, setIfInBounds_toArray, set_cons_zero, set_cons_succ])
 go_cut [38] (fun v38 wc => ∃ (kq : Nat) (x38_2 : Bool), v38 = .bool x38_2 ∧ Ax (l6_shown.j0 kq t140 t142 x38_2 = some r) ∧ Ax (kq ≤ k) ∧ Ax (Below w.heap.size w wc))
 case first =>
  have H := HC3.out
  clear HC3
  by_cases c9 : (t140.size : Int) = 64
  ·rw [if_pos c9] at H
   have c9b0 : ((t140.size : Int) == 64) = true := beq_iff_eq.mpr c9
   have c9b1 : ((t140.size : Int) != 64) = false := bne_eq_false_iff_eq.mpr c9
   clear c9
   (first | rw [c9b0] | (simp only [i64_w, i32_w]; rw [c9b0]) | skip)
   by_cases c10 : (t142.size : Int) = 64
   ·rw [if_pos c10] at H
    have c10b0 : ((t142.size : Int) == 64) = true := beq_iff_eq.mpr c10
    have c10b1 : ((t142.size : Int) != 64) = false := bne_eq_false_iff_eq.mpr c10
    clear c10
    by_cases c11 : t141 = 0
    ·rw [if_pos c11] at H
     have c11b0 : (t141 == 0) = true := beq_iff_eq.mpr c11
     have c11b1 : (t141 != 0) = false := bne_eq_false_iff_eq.mpr c11
     clear c11
     have H' := Ax.mk H
     clear H
     go_wp2
     go_meet
     case rel => exact ⟨_, ((t143 != 0)), (by first | rfl | (simp; done) | (simp [*]; done)), H', ⟨by first | omega | exact Nat.le_refl _⟩, ⟨bA⟩⟩
    ·rw [if_neg c11] at H
     have c11b0 : (t141 == 0) = false := beq_eq_false_iff_ne.mpr c11
     have c11b1 : (t141 != 0) = true := bne_iff_ne.mpr c11
     have H' := Ax.mk H
     clear H
     go_wp2
     go_meet
     case rel => exact ⟨_, (true), (by first | rfl | (simp; done) | (simp [*]; done)), H', ⟨by first | omega | exact Nat.le_refl _⟩, ⟨bA⟩⟩
   ·rw [if_neg c10] at H
    have c10b0 : ((t142.size : Int) == 64) = false := beq_eq_false_iff_ne.mpr c10
    have c10b1 : ((t142.size : Int) != 64) = true := bne_iff_ne.mpr c10
    have H' := Ax.mk H
    clear H
    go_wp2
    go_meet
    case rel => exact ⟨_, (true), (by first | rfl | (simp; done) | (simp [*]; done)), H', ⟨by first | omega | exact Nat.le_refl _⟩, ⟨bA⟩⟩
  ·rw [if_neg c9] at H
   have c9b0 : ((t140.size : Int) == 64) = false := beq_eq_false_iff_ne.mpr c9
   have c9b1 : ((t140.size : Int) != 64) = true := bne_iff_ne.mpr c9
   (first | rw [c9b0] | (simp only [i64_w, i32_w]; rw [c9b0]) | skip)
   have H' := Ax.mk H
   clear H
   go_wp2
   go_meet
   case rel => exact ⟨_, (true), (by first | rfl | (simp; done) | (simp [*]; done)), H', ⟨by first | omega | exact Nat.le_refl _⟩, ⟨bA⟩⟩
 case rest =>
  clear HC3
  try clear c1
  try clear c2
  try clear p2
  try clear c9
  try clear c9b0
  try clear c9b1
  try clear c10
  try clear c10b0
  try clear c10b1
  try clear c11
  try clear c11b0
  try clear c11b1
  obtain ⟨kq, x38_2, rfl, HA, HJ2, HB⟩ := hcut
  cases kq with
  | zero => exact absurd HA.out (by simp [l6_shown.j0])
  | succ kj2 =>
   have H := HA.out
   clear HA
   simp only [l6_shown.j0] at H
   by_cases c12 : x38_2 = true
   ·subst c12
    have H1 : (some false) = some r := by rw [if_pos rfl] at H; exact H
    clear H
    have H := H1
    clear H1
    obtain rfl := Option.some.inj H
    go_wp2
    go_ret
    exact ⟨by first | rfl | (simp [errW_none, errW_some] <;> rfl) | (simp [*, errW_none, errW_some] <;> rfl), bA⟩
   ·replace c12 := Bool.eq_false_iff.mpr c12
    subst c12
    have H1 : ((head_Choose.f kj2 t140 t142).bind fun bt144 => (if 1 ≤ (t142.size : Int) then (if 1 + (t142.size - 1) ≤ 9223372036854775807 then ((head_Choose.f kj2 t140 ((⟨#[113]⟩ : ByteArray) ++ (t142.extract 1 t142.size))).bind fun bt153 => (if bt144.1 = 8 then (if bt144.2.2.2.2.1 = 1 then (if bt144.2.2.2.2.2 = 0 then (if bt153.1 = 7 then (if bt153.2.2.2.2.1 = 0 then (if bt153.2.2.2.2.2 = 0 then (some (bt153.2.2.1 == 65)) else (some false)) else (some false)) else (some false)) else (some false)) else (some false)) else (some false))) else (none)) else (none))) = some r := by rw [if_neg (show ¬ (false = true) by decide)] at H; exact H
    clear H
    have H := H1
    clear H1
    replace H := Option.bind_eq_some_iff.mp H
    obtain ⟨⟨t144, t145, t146, t147, t150, t151⟩, A130, H⟩ := H
    replace H : (if 1 ≤ (t142.size : Int) then (if 1 + (t142.size - 1) ≤ 9223372036854775807 then ((head_Choose.f kj2 t140 ((⟨#[113]⟩ : ByteArray) ++ (t142.extract 1 t142.size))).bind fun bt153 => (if t144 = 8 then (if t150 = 1 then (if t151 = 0 then (if bt153.1 = 7 then (if bt153.2.2.2.2.1 = 0 then (if bt153.2.2.2.2.2 = 0 then (some (bt153.2.2.1 == 65)) else (some false)) else (some false)) else (some false)) else (some false)) else (some false)) else (some false))) else (none)) else (none)) = some r := H
    have A13 := Ax.mk A130
    clear A130
    by_cases c14 : 1 ≤ (t142.size : Int)
    ·rw [if_pos c14] at H
     have c14b0 := eq_true c14
     have c14b1 : decide (1 ≤ (t142.size : Int)) = true := decide_eq_true c14
     clear c14
     by_cases c15 : 1 + (t142.size - 1) ≤ 9223372036854775807
     ·rw [if_pos c15] at H
      have c15b0 := eq_true c15
      have c15b1 : decide (1 + (t142.size - 1) ≤ 9223372036854775807) = true := decide_eq_true c15
      try have c15b2 : (9223372036854775807 < 1 + (t142.size - 1)) = False := eq_false (Nat.not_lt.2 c15)
      replace H := Option.bind_eq_some_iff.mp H
      obtain ⟨⟨t153, t154, t155, t156, t159, t160⟩, A160, H⟩ := H
      replace H : (if t144 = 8 then (if t150 = 1 then (if t151 = 0 then (if t153 = 7 then (if t159 = 0 then (if t160 = 0 then (some (t155 == 65)) else (some false)) else (some false)) else (some false)) else (some false)) else (some false)) else (some false)) = some r := H
      have A16 := Ax.mk A160
      clear A160
      by_cases c17 : t144 = 8
      ·rw [if_pos c17] at H
       have c17b0 : (t144 == 8) = true := beq_iff_eq.mpr c17
       have c17b1 : (t144 != 8) = false := bne_eq_false_iff_eq.mpr c17
       clear c17
       by_cases c18 : t150 = 1
       ·rw [if_pos c18] at H
        have c18b0 : (t150 == 1) = true := beq_iff_eq.mpr c18
        have c18b1 : (t150 != 1) = false := bne_eq_false_iff_eq.mpr c18
        clear c18
        by_cases c19 : t151 = 0
        ·rw [if_pos c19] at H
         have c19b0 : (t151 == 0) = true := beq_iff_eq.mpr c19
         have c19b1 : (t151 != 0) = false := bne_eq_false_iff_eq.mpr c19
         clear c19
         by_cases c20 : t153 = 7
         ·rw [if_pos c20] at H
          have c20b0 : (t153 == 7) = true := beq_iff_eq.mpr c20
          have c20b1 : (t153 != 7) = false := bne_eq_false_iff_eq.mpr c20
          clear c20
          by_cases c21 : t159 = 0
          ·rw [if_pos c21] at H
           have c21b0 : (t159 == 0) = true := beq_iff_eq.mpr c21
           have c21b1 : (t159 != 0) = false := bne_eq_false_iff_eq.mpr c21
           clear c21
           by_cases c22 : t160 = 0
           ·rw [if_pos c22] at H
            have c22b0 : (t160 == 0) = true := beq_iff_eq.mpr c22
            have c22b1 : (t160 != 0) = false := bne_eq_false_iff_eq.mpr c22
            clear c22
            obtain rfl := Option.some.inj H
            go_wp2_with (first | ((with_reducible refine gate_callee (f := 18) rfl ?_); refine goesL_ (some 42) rfl rfl Tryd.func18 (by kernel_rfl) rfl #[.string t140, .string t142] rfl (by (try simp only [List.map_toArray, List.map_cons, List.map_nil]); first | done | rfl | (simp only [List.length_drop, List.length_take]; rfl) | (rw [wrap_sum2 (by assumption)]; rfl)) ?_; (with_reducible refine (head_Choose.calls kj2 t140 t142 t144 t145 t146 t147 t150 t151 _ A13.out).mono ?_); rintro e w23 ⟨v148, rfl, ho0, hb⟩; refine ⟨_, rfl, ?_⟩; have n0_ := Ax.mk (Kd.R_lower ho0 (bS bA)); have n1_ := Ax.mk (bP bA hb); clear HB; have HO149 := n0_; have HB := n1_; clear n0_ n1_; (try clear hb); (try clear hb2); (try clear hk); (try clear hi); (try clear ho0)) | ((with_reducible refine gate_dst (N := 5) rfl ?_); (try (refine gate_guard (by rfl) ?_; dsimp only)); refine box_event ?hg (N := 5) ?hd (cs := #[.int .u64 0, .int .i64 0, .int .i64 0, .slice none 0 0]) (t := 25) ?hr ?_; (case hd => rfl); (case hg => rfl); (case hr => first | (go_simp; done) | (go_simp; rfl)); intro gb152 hg w24 hbox hb; have n0_ := Ax.mk (Kd.R_below (by exact Kd.R_to HO149.out) hb); have n1_ := Ax.mk (bP bA hb); have n2_ := Ax.mk (hbox); have n3_ := Ax.mk ((ge_new hg : w.heap.size ≤ gb152)); have n4_ := n3_; clear HO149; clear HB; have HO149 := n0_; have HB := n1_; have BK152 := n2_; have GW152 := n3_; have GE152 := n4_; clear n0_ n1_ n2_ n3_ n4_; clear hb hbox hg; have hcz25_0 : w24.cell? ⟨gb152, 0, none⟩ = some (.int .u64 0) := (bC BK152.out 0).trans rfl; have hcz25_1 : w24.cell? ⟨gb152, 1, none⟩ = some (.int .i64 0) := (bC BK152.out 1).trans rfl; have hcz25_2 : w24.cell? ⟨gb152, 2, none⟩ = some (.int .i64 0) := (bC BK152.out 2).trans rfl; have hcz25_3 : w24.cell? ⟨gb152, 3, none⟩ = some (.slice none 0 0) := (bC BK152.out 3).trans rfl; have hfz25_0 := bF BK152.out 0; have hfz25_1 := bF BK152.out 1; have hfz25_2 := bF BK152.out 2; have hfz25_3 := bF BK152.out 3; obtain ⟨Ao26, co26, eo26⟩ := Kd.R_slice HO149.out; subst eo26) | ((with_reducible refine gate_callee (f := 18) rfl ?_); refine goesL_ (some 51) rfl rfl Tryd.func18 (by kernel_rfl) rfl #[.string t140, .string ((⟨#[113]⟩ : ByteArray) ++ (t142.extract 1 t142.size))] rfl (by (try simp only [List.map_toArray, List.map_cons, List.map_nil]); first | done | rfl | (simp only [List.length_drop, List.length_take]; rfl) | (rw [wrap_sum2 (by assumption)]; rfl)) ?_; (with_reducible refine (head_Choose.calls kj2 t140 ((⟨#[113]⟩ : ByteArray) ++ (t142.extract 1 t142.size)) t153 t154 t155 t156 t159 t160 _ A16.out).mono ?_); rintro e w27 ⟨v157, rfl, ho0, hb⟩; refine ⟨_, rfl, ?_⟩; have n0_ := Ax.mk (Kd.R_elder' (by apply Kd.R_to; exact (Kd.R_mono (Kd.R_far (p := ⟨gb152, 3, none⟩) (Kd.R_far (p := ⟨gb152, 2, none⟩) (Kd.R_far (p := ⟨gb152, 1, none⟩) (Kd.R_far (p := ⟨gb152, 0, none⟩) (Kd.R_types HO149.out BK152.out (by decide)) (fun _ hk => hk.2) (.int .u64 t144)) (fun _ hk => hk.2) (.int .i64 t145)) (fun _ hk => hk.2) (.int .i64 t146)) (fun _ hk => hk.2) (.slice Ao26 t147.length co26)) (fun _ h_ => h_.1))) (Kd.R_base ho0) hb); have n1_ := Ax.mk (Kd.R_lower (Kd.R_new' ho0 (Kd.R_lt (by apply Kd.R_to; exact (Kd.R_mono (Kd.R_far (p := ⟨gb152, 3, none⟩) (Kd.R_far (p := ⟨gb152, 2, none⟩) (Kd.R_far (p := ⟨gb152, 1, none⟩) (Kd.R_far (p := ⟨gb152, 0, none⟩) (Kd.R_types HO149.out BK152.out (by decide)) (fun _ hk => hk.2) (.int .u64 t144)) (fun _ hk => hk.2) (.int .i64 t145)) (fun _ hk => hk.2) (.int .i64 t146)) (fun _ hk => hk.2) (.slice Ao26 t147.length co26)) (fun _ h_ => h_.1))))) (bS bA)); have n2_ := Ax.mk (bB (g := gb152) (o := .cells #[.int .u64 t144, .int .i64 t145, .int .i64 t146, .slice Ao26 t147.length co26] 25 (0, 0)) (by refine bT ?_; refine bU (cs := #[.int .u64 t144, .int .i64 t145, .int .i64 t146, .slice none 0 0]) ?_ 3 _ rfl; refine bT ?_; refine bU (cs := #[.int .u64 t144, .int .i64 t145, .int .i64 0, .slice none 0 0]) ?_ 2 _ rfl; refine bT ?_; refine bU (cs := #[.int .u64 t144, .int .i64 0, .int .i64 0, .slice none 0 0]) ?_ 1 _ rfl; refine bT ?_; refine bU (cs := #[.int .u64 0, .int .i64 0, .int .i64 0, .slice none 0 0]) ?_ 0 _ rfl; exact bT BK152.out) hb); have n3_ := Ax.mk (bP bA hb); clear HO149; clear BK152; clear HB; have HO149 := n0_; have HO158 := n1_; have BK152 := n2_; have HB := n3_; clear n0_ n1_ n2_ n3_; (try clear hb); (try clear hb2); (try clear hk); (try clear hi); (try clear ho0)) | ((with_reducible refine gate_dst (N := 8) rfl ?_); (try (refine gate_guard (by rfl) ?_; dsimp only)); refine box_event ?hg (N := 8) ?hd (cs := #[.int .u64 0, .int .i64 0, .int .i64 0, .slice none 0 0]) (t := 25) ?hr ?_; (case hd => rfl); (case hg => rfl); (case hr => first | (go_simp; done) | (go_simp; rfl)); intro gb161 hg w28 hbox hb; have n0_ := Ax.mk (Kd.R_below (by exact Kd.R_to HO149.out) hb); have n1_ := Ax.mk (Kd.R_below (by exact Kd.R_to HO158.out) hb); have n2_ := Ax.mk (bB (bT BK152.out) hb); have n3_ := Ax.mk (bP bA hb); have n4_ := Ax.mk (hbox); have n5_ := Ax.mk ((ge_new hg : w.heap.size ≤ gb161)); have n6_ := n5_; have n7_ := Ax.mk ((ne_lt hg BK152.out : gb152 ≠ gb161)); have n8_ := Ax.mk ((ne_gt hg BK152.out : gb161 ≠ gb152)); clear HO149; clear HO158; clear BK152; clear HB; have HO149 := n0_; have HO158 := n1_; have BK152 := n2_; have HB := n3_; have BK161 := n4_; have GW161 := n5_; have GE161 := n6_; have NB152_161 := n7_; have NB161_152 := n8_; clear n0_ n1_ n2_ n3_ n4_ n5_ n6_ n7_ n8_; clear hb hbox hg; have hnb29 := NB161_152.out; have hnc29 := NB152_161.out; have hcz30_0 : w28.cell? ⟨gb161, 0, none⟩ = some (.int .u64 0) := (bC BK161.out 0).trans rfl; have hcz30_1 : w28.cell? ⟨gb161, 1, none⟩ = some (.int .i64 0) := (bC BK161.out 1).trans rfl; have hcz30_2 : w28.cell? ⟨gb161, 2, none⟩ = some (.int .i64 0) := (bC BK161.out 2).trans rfl; have hcz30_3 : w28.cell? ⟨gb161, 3, none⟩ = some (.slice none 0 0) := (bC BK161.out 3).trans rfl; have hfz30_0 := bF BK161.out 0; have hfz30_1 := bF BK161.out 1; have hfz30_2 := bF BK161.out 2; have hfz30_3 := bF BK161.out 3; obtain ⟨Ao31, co31, eo31⟩ := Kd.R_slice HO158.out; subst eo31; have hcz32_0 : w28.cell? ⟨gb152, 0, none⟩ = some (.int .u64 t144) := (bC BK152.out 0).trans rfl; have hcz32_1 : w28.cell? ⟨gb152, 1, none⟩ = some (.int .i64 t145) := (bC BK152.out 1).trans rfl; have hcz32_2 : w28.cell? ⟨gb152, 2, none⟩ = some (.int .i64 t146) := (bC BK152.out 2).trans rfl; have hcz32_3 : w28.cell? ⟨gb152, 3, none⟩ = some (.slice Ao26 t147.length co26) := (bC BK152.out 3).trans rfl; have hfz32_0 := bF BK152.out 0; have hfz32_1 := bF BK152.out 1; have hfz32_2 := bF BK152.out 2; have hfz32_3 := bF BK152.out 3))
            go_ret
            exact ⟨by first | rfl | (simp [errW_none, errW_some] <;> rfl) | (simp [*, errW_none, errW_some] <;> rfl), bA⟩
           ·rw [if_neg c22] at H
            have c22b0 : (t160 == 0) = false := beq_eq_false_iff_ne.mpr c22
            have c22b1 : (t160 != 0) = true := bne_iff_ne.mpr c22
            obtain rfl := Option.some.inj H
            go_wp2_with (first | ((with_reducible refine gate_callee (f := 18) rfl ?_); refine goesL_ (some 42) rfl rfl Tryd.func18 (by kernel_rfl) rfl #[.string t140, .string t142] rfl (by (try simp only [List.map_toArray, List.map_cons, List.map_nil]); first | done | rfl | (simp only [List.length_drop, List.length_take]; rfl) | (rw [wrap_sum2 (by assumption)]; rfl)) ?_; (with_reducible refine (head_Choose.calls kj2 t140 t142 t144 t145 t146 t147 t150 t151 _ A13.out).mono ?_); rintro e w33 ⟨v148, rfl, ho0, hb⟩; refine ⟨_, rfl, ?_⟩; have n0_ := Ax.mk (Kd.R_lower ho0 (bS bA)); have n1_ := Ax.mk (bP bA hb); clear HB; have HO149 := n0_; have HB := n1_; clear n0_ n1_; (try clear hb); (try clear hb2); (try clear hk); (try clear hi); (try clear ho0)) | ((with_reducible refine gate_dst (N := 5) rfl ?_); (try (refine gate_guard (by rfl) ?_; dsimp only)); refine box_event ?hg (N := 5) ?hd (cs := #[.int .u64 0, .int .i64 0, .int .i64 0, .slice none 0 0]) (t := 25) ?hr ?_; (case hd => rfl); (case hg => rfl); (case hr => first | (go_simp; done) | (go_simp; rfl)); intro gb152 hg w34 hbox hb; have n0_ := Ax.mk (Kd.R_below (by exact Kd.R_to HO149.out) hb); have n1_ := Ax.mk (bP bA hb); have n2_ := Ax.mk (hbox); have n3_ := Ax.mk ((ge_new hg : w.heap.size ≤ gb152)); have n4_ := n3_; clear HO149; clear HB; have HO149 := n0_; have HB := n1_; have BK152 := n2_; have GW152 := n3_; have GE152 := n4_; clear n0_ n1_ n2_ n3_ n4_; clear hb hbox hg; have hcz35_0 : w34.cell? ⟨gb152, 0, none⟩ = some (.int .u64 0) := (bC BK152.out 0).trans rfl; have hcz35_1 : w34.cell? ⟨gb152, 1, none⟩ = some (.int .i64 0) := (bC BK152.out 1).trans rfl; have hcz35_2 : w34.cell? ⟨gb152, 2, none⟩ = some (.int .i64 0) := (bC BK152.out 2).trans rfl; have hcz35_3 : w34.cell? ⟨gb152, 3, none⟩ = some (.slice none 0 0) := (bC BK152.out 3).trans rfl; have hfz35_0 := bF BK152.out 0; have hfz35_1 := bF BK152.out 1; have hfz35_2 := bF BK152.out 2; have hfz35_3 := bF BK152.out 3; obtain ⟨Ao36, co36, eo36⟩ := Kd.R_slice HO149.out; subst eo36) | ((with_reducible refine gate_callee (f := 18) rfl ?_); refine goesL_ (some 51) rfl rfl Tryd.func18 (by kernel_rfl) rfl #[.string t140, .string ((⟨#[113]⟩ : ByteArray) ++ (t142.extract 1 t142.size))] rfl (by (try simp only [List.map_toArray, List.map_cons, List.map_nil]); first | done | rfl | (simp only [List.length_drop, List.length_take]; rfl) | (rw [wrap_sum2 (by assumption)]; rfl)) ?_; (with_reducible refine (head_Choose.calls kj2 t140 ((⟨#[113]⟩ : ByteArray) ++ (t142.extract 1 t142.size)) t153 t154 t155 t156 t159 t160 _ A16.out).mono ?_); rintro e w37 ⟨v157, rfl, ho0, hb⟩; refine ⟨_, rfl, ?_⟩; have n0_ := Ax.mk (Kd.R_elder' (by apply Kd.R_to; exact (Kd.R_mono (Kd.R_far (p := ⟨gb152, 3, none⟩) (Kd.R_far (p := ⟨gb152, 2, none⟩) (Kd.R_far (p := ⟨gb152, 1, none⟩) (Kd.R_far (p := ⟨gb152, 0, none⟩) (Kd.R_types HO149.out BK152.out (by decide)) (fun _ hk => hk.2) (.int .u64 t144)) (fun _ hk => hk.2) (.int .i64 t145)) (fun _ hk => hk.2) (.int .i64 t146)) (fun _ hk => hk.2) (.slice Ao36 t147.length co36)) (fun _ h_ => h_.1))) (Kd.R_base ho0) hb); have n1_ := Ax.mk (Kd.R_lower (Kd.R_new' ho0 (Kd.R_lt (by apply Kd.R_to; exact (Kd.R_mono (Kd.R_far (p := ⟨gb152, 3, none⟩) (Kd.R_far (p := ⟨gb152, 2, none⟩) (Kd.R_far (p := ⟨gb152, 1, none⟩) (Kd.R_far (p := ⟨gb152, 0, none⟩) (Kd.R_types HO149.out BK152.out (by decide)) (fun _ hk => hk.2) (.int .u64 t144)) (fun _ hk => hk.2) (.int .i64 t145)) (fun _ hk => hk.2) (.int .i64 t146)) (fun _ hk => hk.2) (.slice Ao36 t147.length co36)) (fun _ h_ => h_.1))))) (bS bA)); have n2_ := Ax.mk (bB (g := gb152) (o := .cells #[.int .u64 t144, .int .i64 t145, .int .i64 t146, .slice Ao36 t147.length co36] 25 (0, 0)) (by refine bT ?_; refine bU (cs := #[.int .u64 t144, .int .i64 t145, .int .i64 t146, .slice none 0 0]) ?_ 3 _ rfl; refine bT ?_; refine bU (cs := #[.int .u64 t144, .int .i64 t145, .int .i64 0, .slice none 0 0]) ?_ 2 _ rfl; refine bT ?_; refine bU (cs := #[.int .u64 t144, .int .i64 0, .int .i64 0, .slice none 0 0]) ?_ 1 _ rfl; refine bT ?_; refine bU (cs := #[.int .u64 0, .int .i64 0, .int .i64 0, .slice none 0 0]) ?_ 0 _ rfl; exact bT BK152.out) hb); have n3_ := Ax.mk (bP bA hb); clear HO149; clear BK152; clear HB; have HO149 := n0_; have HO158 := n1_; have BK152 := n2_; have HB := n3_; clear n0_ n1_ n2_ n3_; (try clear hb); (try clear hb2); (try clear hk); (try clear hi); (try clear ho0)) | ((with_reducible refine gate_dst (N := 8) rfl ?_); (try (refine gate_guard (by rfl) ?_; dsimp only)); refine box_event ?hg (N := 8) ?hd (cs := #[.int .u64 0, .int .i64 0, .int .i64 0, .slice none 0 0]) (t := 25) ?hr ?_; (case hd => rfl); (case hg => rfl); (case hr => first | (go_simp; done) | (go_simp; rfl)); intro gb161 hg w38 hbox hb; have n0_ := Ax.mk (Kd.R_below (by exact Kd.R_to HO149.out) hb); have n1_ := Ax.mk (Kd.R_below (by exact Kd.R_to HO158.out) hb); have n2_ := Ax.mk (bB (bT BK152.out) hb); have n3_ := Ax.mk (bP bA hb); have n4_ := Ax.mk (hbox); have n5_ := Ax.mk ((ge_new hg : w.heap.size ≤ gb161)); have n6_ := n5_; have n7_ := Ax.mk ((ne_lt hg BK152.out : gb152 ≠ gb161)); have n8_ := Ax.mk ((ne_gt hg BK152.out : gb161 ≠ gb152)); clear HO149; clear HO158; clear BK152; clear HB; have HO149 := n0_; have HO158 := n1_; have BK152 := n2_; have HB := n3_; have BK161 := n4_; have GW161 := n5_; have GE161 := n6_; have NB152_161 := n7_; have NB161_152 := n8_; clear n0_ n1_ n2_ n3_ n4_ n5_ n6_ n7_ n8_; clear hb hbox hg; have hnb39 := NB161_152.out; have hnc39 := NB152_161.out; have hcz40_0 : w38.cell? ⟨gb161, 0, none⟩ = some (.int .u64 0) := (bC BK161.out 0).trans rfl; have hcz40_1 : w38.cell? ⟨gb161, 1, none⟩ = some (.int .i64 0) := (bC BK161.out 1).trans rfl; have hcz40_2 : w38.cell? ⟨gb161, 2, none⟩ = some (.int .i64 0) := (bC BK161.out 2).trans rfl; have hcz40_3 : w38.cell? ⟨gb161, 3, none⟩ = some (.slice none 0 0) := (bC BK161.out 3).trans rfl; have hfz40_0 := bF BK161.out 0; have hfz40_1 := bF BK161.out 1; have hfz40_2 := bF BK161.out 2; have hfz40_3 := bF BK161.out 3; obtain ⟨Ao41, co41, eo41⟩ := Kd.R_slice HO158.out; subst eo41; have hcz42_0 : w38.cell? ⟨gb152, 0, none⟩ = some (.int .u64 t144) := (bC BK152.out 0).trans rfl; have hcz42_1 : w38.cell? ⟨gb152, 1, none⟩ = some (.int .i64 t145) := (bC BK152.out 1).trans rfl; have hcz42_2 : w38.cell? ⟨gb152, 2, none⟩ = some (.int .i64 t146) := (bC BK152.out 2).trans rfl; have hcz42_3 : w38.cell? ⟨gb152, 3, none⟩ = some (.slice Ao36 t147.length co36) := (bC BK152.out 3).trans rfl; have hfz42_0 := bF BK152.out 0; have hfz42_1 := bF BK152.out 1; have hfz42_2 := bF BK152.out 2; have hfz42_3 := bF BK152.out 3))
            go_ret
            exact ⟨by first | rfl | (simp [errW_none, errW_some] <;> rfl) | (simp [*, errW_none, errW_some] <;> rfl), bA⟩
          ·rw [if_neg c21] at H
           have c21b0 : (t159 == 0) = false := beq_eq_false_iff_ne.mpr c21
           have c21b1 : (t159 != 0) = true := bne_iff_ne.mpr c21
           obtain rfl := Option.some.inj H
           go_wp2_with (first | ((with_reducible refine gate_callee (f := 18) rfl ?_); refine goesL_ (some 42) rfl rfl Tryd.func18 (by kernel_rfl) rfl #[.string t140, .string t142] rfl (by (try simp only [List.map_toArray, List.map_cons, List.map_nil]); first | done | rfl | (simp only [List.length_drop, List.length_take]; rfl) | (rw [wrap_sum2 (by assumption)]; rfl)) ?_; (with_reducible refine (head_Choose.calls kj2 t140 t142 t144 t145 t146 t147 t150 t151 _ A13.out).mono ?_); rintro e w43 ⟨v148, rfl, ho0, hb⟩; refine ⟨_, rfl, ?_⟩; have n0_ := Ax.mk (Kd.R_lower ho0 (bS bA)); have n1_ := Ax.mk (bP bA hb); clear HB; have HO149 := n0_; have HB := n1_; clear n0_ n1_; (try clear hb); (try clear hb2); (try clear hk); (try clear hi); (try clear ho0)) | ((with_reducible refine gate_dst (N := 5) rfl ?_); (try (refine gate_guard (by rfl) ?_; dsimp only)); refine box_event ?hg (N := 5) ?hd (cs := #[.int .u64 0, .int .i64 0, .int .i64 0, .slice none 0 0]) (t := 25) ?hr ?_; (case hd => rfl); (case hg => rfl); (case hr => first | (go_simp; done) | (go_simp; rfl)); intro gb152 hg w44 hbox hb; have n0_ := Ax.mk (Kd.R_below (by exact Kd.R_to HO149.out) hb); have n1_ := Ax.mk (bP bA hb); have n2_ := Ax.mk (hbox); have n3_ := Ax.mk ((ge_new hg : w.heap.size ≤ gb152)); have n4_ := n3_; clear HO149; clear HB; have HO149 := n0_; have HB := n1_; have BK152 := n2_; have GW152 := n3_; have GE152 := n4_; clear n0_ n1_ n2_ n3_ n4_; clear hb hbox hg; have hcz45_0 : w44.cell? ⟨gb152, 0, none⟩ = some (.int .u64 0) := (bC BK152.out 0).trans rfl; have hcz45_1 : w44.cell? ⟨gb152, 1, none⟩ = some (.int .i64 0) := (bC BK152.out 1).trans rfl; have hcz45_2 : w44.cell? ⟨gb152, 2, none⟩ = some (.int .i64 0) := (bC BK152.out 2).trans rfl; have hcz45_3 : w44.cell? ⟨gb152, 3, none⟩ = some (.slice none 0 0) := (bC BK152.out 3).trans rfl; have hfz45_0 := bF BK152.out 0; have hfz45_1 := bF BK152.out 1; have hfz45_2 := bF BK152.out 2; have hfz45_3 := bF BK152.out 3; obtain ⟨Ao46, co46, eo46⟩ := Kd.R_slice HO149.out; subst eo46) | ((with_reducible refine gate_callee (f := 18) rfl ?_); refine goesL_ (some 51) rfl rfl Tryd.func18 (by kernel_rfl) rfl #[.string t140, .string ((⟨#[113]⟩ : ByteArray) ++ (t142.extract 1 t142.size))] rfl (by (try simp only [List.map_toArray, List.map_cons, List.map_nil]); first | done | rfl | (simp only [List.length_drop, List.length_take]; rfl) | (rw [wrap_sum2 (by assumption)]; rfl)) ?_; (with_reducible refine (head_Choose.calls kj2 t140 ((⟨#[113]⟩ : ByteArray) ++ (t142.extract 1 t142.size)) t153 t154 t155 t156 t159 t160 _ A16.out).mono ?_); rintro e w47 ⟨v157, rfl, ho0, hb⟩; refine ⟨_, rfl, ?_⟩; have n0_ := Ax.mk (Kd.R_elder' (by apply Kd.R_to; exact (Kd.R_mono (Kd.R_far (p := ⟨gb152, 3, none⟩) (Kd.R_far (p := ⟨gb152, 2, none⟩) (Kd.R_far (p := ⟨gb152, 1, none⟩) (Kd.R_far (p := ⟨gb152, 0, none⟩) (Kd.R_types HO149.out BK152.out (by decide)) (fun _ hk => hk.2) (.int .u64 t144)) (fun _ hk => hk.2) (.int .i64 t145)) (fun _ hk => hk.2) (.int .i64 t146)) (fun _ hk => hk.2) (.slice Ao46 t147.length co46)) (fun _ h_ => h_.1))) (Kd.R_base ho0) hb); have n1_ := Ax.mk (Kd.R_lower (Kd.R_new' ho0 (Kd.R_lt (by apply Kd.R_to; exact (Kd.R_mono (Kd.R_far (p := ⟨gb152, 3, none⟩) (Kd.R_far (p := ⟨gb152, 2, none⟩) (Kd.R_far (p := ⟨gb152, 1, none⟩) (Kd.R_far (p := ⟨gb152, 0, none⟩) (Kd.R_types HO149.out BK152.out (by decide)) (fun _ hk => hk.2) (.int .u64 t144)) (fun _ hk => hk.2) (.int .i64 t145)) (fun _ hk => hk.2) (.int .i64 t146)) (fun _ hk => hk.2) (.slice Ao46 t147.length co46)) (fun _ h_ => h_.1))))) (bS bA)); have n2_ := Ax.mk (bB (g := gb152) (o := .cells #[.int .u64 t144, .int .i64 t145, .int .i64 t146, .slice Ao46 t147.length co46] 25 (0, 0)) (by refine bT ?_; refine bU (cs := #[.int .u64 t144, .int .i64 t145, .int .i64 t146, .slice none 0 0]) ?_ 3 _ rfl; refine bT ?_; refine bU (cs := #[.int .u64 t144, .int .i64 t145, .int .i64 0, .slice none 0 0]) ?_ 2 _ rfl; refine bT ?_; refine bU (cs := #[.int .u64 t144, .int .i64 0, .int .i64 0, .slice none 0 0]) ?_ 1 _ rfl; refine bT ?_; refine bU (cs := #[.int .u64 0, .int .i64 0, .int .i64 0, .slice none 0 0]) ?_ 0 _ rfl; exact bT BK152.out) hb); have n3_ := Ax.mk (bP bA hb); clear HO149; clear BK152; clear HB; have HO149 := n0_; have HO158 := n1_; have BK152 := n2_; have HB := n3_; clear n0_ n1_ n2_ n3_; (try clear hb); (try clear hb2); (try clear hk); (try clear hi); (try clear ho0)) | ((with_reducible refine gate_dst (N := 8) rfl ?_); (try (refine gate_guard (by rfl) ?_; dsimp only)); refine box_event ?hg (N := 8) ?hd (cs := #[.int .u64 0, .int .i64 0, .int .i64 0, .slice none 0 0]) (t := 25) ?hr ?_; (case hd => rfl); (case hg => rfl); (case hr => first | (go_simp; done) | (go_simp; rfl)); intro gb161 hg w48 hbox hb; have n0_ := Ax.mk (Kd.R_below (by exact Kd.R_to HO149.out) hb); have n1_ := Ax.mk (Kd.R_below (by exact Kd.R_to HO158.out) hb); have n2_ := Ax.mk (bB (bT BK152.out) hb); have n3_ := Ax.mk (bP bA hb); have n4_ := Ax.mk (hbox); have n5_ := Ax.mk ((ge_new hg : w.heap.size ≤ gb161)); have n6_ := n5_; have n7_ := Ax.mk ((ne_lt hg BK152.out : gb152 ≠ gb161)); have n8_ := Ax.mk ((ne_gt hg BK152.out : gb161 ≠ gb152)); clear HO149; clear HO158; clear BK152; clear HB; have HO149 := n0_; have HO158 := n1_; have BK152 := n2_; have HB := n3_; have BK161 := n4_; have GW161 := n5_; have GE161 := n6_; have NB152_161 := n7_; have NB161_152 := n8_; clear n0_ n1_ n2_ n3_ n4_ n5_ n6_ n7_ n8_; clear hb hbox hg; have hnb49 := NB161_152.out; have hnc49 := NB152_161.out; have hcz50_0 : w48.cell? ⟨gb161, 0, none⟩ = some (.int .u64 0) := (bC BK161.out 0).trans rfl; have hcz50_1 : w48.cell? ⟨gb161, 1, none⟩ = some (.int .i64 0) := (bC BK161.out 1).trans rfl; have hcz50_2 : w48.cell? ⟨gb161, 2, none⟩ = some (.int .i64 0) := (bC BK161.out 2).trans rfl; have hcz50_3 : w48.cell? ⟨gb161, 3, none⟩ = some (.slice none 0 0) := (bC BK161.out 3).trans rfl; have hfz50_0 := bF BK161.out 0; have hfz50_1 := bF BK161.out 1; have hfz50_2 := bF BK161.out 2; have hfz50_3 := bF BK161.out 3; obtain ⟨Ao51, co51, eo51⟩ := Kd.R_slice HO158.out; subst eo51; have hcz52_0 : w48.cell? ⟨gb152, 0, none⟩ = some (.int .u64 t144) := (bC BK152.out 0).trans rfl; have hcz52_1 : w48.cell? ⟨gb152, 1, none⟩ = some (.int .i64 t145) := (bC BK152.out 1).trans rfl; have hcz52_2 : w48.cell? ⟨gb152, 2, none⟩ = some (.int .i64 t146) := (bC BK152.out 2).trans rfl; have hcz52_3 : w48.cell? ⟨gb152, 3, none⟩ = some (.slice Ao46 t147.length co46) := (bC BK152.out 3).trans rfl; have hfz52_0 := bF BK152.out 0; have hfz52_1 := bF BK152.out 1; have hfz52_2 := bF BK152.out 2; have hfz52_3 := bF BK152.out 3))
           go_ret
           exact ⟨by first | rfl | (simp [errW_none, errW_some] <;> rfl) | (simp [*, errW_none, errW_some] <;> rfl), bA⟩
         ·rw [if_neg c20] at H
          have c20b0 : (t153 == 7) = false := beq_eq_false_iff_ne.mpr c20
          have c20b1 : (t153 != 7) = true := bne_iff_ne.mpr c20
          obtain rfl := Option.some.inj H
          go_wp2_with (first | ((with_reducible refine gate_callee (f := 18) rfl ?_); refine goesL_ (some 42) rfl rfl Tryd.func18 (by kernel_rfl) rfl #[.string t140, .string t142] rfl (by (try simp only [List.map_toArray, List.map_cons, List.map_nil]); first | done | rfl | (simp only [List.length_drop, List.length_take]; rfl) | (rw [wrap_sum2 (by assumption)]; rfl)) ?_; (with_reducible refine (head_Choose.calls kj2 t140 t142 t144 t145 t146 t147 t150 t151 _ A13.out).mono ?_); rintro e w53 ⟨v148, rfl, ho0, hb⟩; refine ⟨_, rfl, ?_⟩; have n0_ := Ax.mk (Kd.R_lower ho0 (bS bA)); have n1_ := Ax.mk (bP bA hb); clear HB; have HO149 := n0_; have HB := n1_; clear n0_ n1_; (try clear hb); (try clear hb2); (try clear hk); (try clear hi); (try clear ho0)) | ((with_reducible refine gate_dst (N := 5) rfl ?_); (try (refine gate_guard (by rfl) ?_; dsimp only)); refine box_event ?hg (N := 5) ?hd (cs := #[.int .u64 0, .int .i64 0, .int .i64 0, .slice none 0 0]) (t := 25) ?hr ?_; (case hd => rfl); (case hg => rfl); (case hr => first | (go_simp; done) | (go_simp; rfl)); intro gb152 hg w54 hbox hb; have n0_ := Ax.mk (Kd.R_below (by exact Kd.R_to HO149.out) hb); have n1_ := Ax.mk (bP bA hb); have n2_ := Ax.mk (hbox); have n3_ := Ax.mk ((ge_new hg : w.heap.size ≤ gb152)); have n4_ := n3_; clear HO149; clear HB; have HO149 := n0_; have HB := n1_; have BK152 := n2_; have GW152 := n3_; have GE152 := n4_; clear n0_ n1_ n2_ n3_ n4_; clear hb hbox hg; have hcz55_0 : w54.cell? ⟨gb152, 0, none⟩ = some (.int .u64 0) := (bC BK152.out 0).trans rfl; have hcz55_1 : w54.cell? ⟨gb152, 1, none⟩ = some (.int .i64 0) := (bC BK152.out 1).trans rfl; have hcz55_2 : w54.cell? ⟨gb152, 2, none⟩ = some (.int .i64 0) := (bC BK152.out 2).trans rfl; have hcz55_3 : w54.cell? ⟨gb152, 3, none⟩ = some (.slice none 0 0) := (bC BK152.out 3).trans rfl; have hfz55_0 := bF BK152.out 0; have hfz55_1 := bF BK152.out 1; have hfz55_2 := bF BK152.out 2; have hfz55_3 := bF BK152.out 3; obtain ⟨Ao56, co56, eo56⟩ := Kd.R_slice HO149.out; subst eo56) | ((with_reducible refine gate_callee (f := 18) rfl ?_); refine goesL_ (some 51) rfl rfl Tryd.func18 (by kernel_rfl) rfl #[.string t140, .string ((⟨#[113]⟩ : ByteArray) ++ (t142.extract 1 t142.size))] rfl (by (try simp only [List.map_toArray, List.map_cons, List.map_nil]); first | done | rfl | (simp only [List.length_drop, List.length_take]; rfl) | (rw [wrap_sum2 (by assumption)]; rfl)) ?_; (with_reducible refine (head_Choose.calls kj2 t140 ((⟨#[113]⟩ : ByteArray) ++ (t142.extract 1 t142.size)) t153 t154 t155 t156 t159 t160 _ A16.out).mono ?_); rintro e w57 ⟨v157, rfl, ho0, hb⟩; refine ⟨_, rfl, ?_⟩; have n0_ := Ax.mk (Kd.R_elder' (by apply Kd.R_to; exact (Kd.R_mono (Kd.R_far (p := ⟨gb152, 3, none⟩) (Kd.R_far (p := ⟨gb152, 2, none⟩) (Kd.R_far (p := ⟨gb152, 1, none⟩) (Kd.R_far (p := ⟨gb152, 0, none⟩) (Kd.R_types HO149.out BK152.out (by decide)) (fun _ hk => hk.2) (.int .u64 t144)) (fun _ hk => hk.2) (.int .i64 t145)) (fun _ hk => hk.2) (.int .i64 t146)) (fun _ hk => hk.2) (.slice Ao56 t147.length co56)) (fun _ h_ => h_.1))) (Kd.R_base ho0) hb); have n1_ := Ax.mk (Kd.R_lower (Kd.R_new' ho0 (Kd.R_lt (by apply Kd.R_to; exact (Kd.R_mono (Kd.R_far (p := ⟨gb152, 3, none⟩) (Kd.R_far (p := ⟨gb152, 2, none⟩) (Kd.R_far (p := ⟨gb152, 1, none⟩) (Kd.R_far (p := ⟨gb152, 0, none⟩) (Kd.R_types HO149.out BK152.out (by decide)) (fun _ hk => hk.2) (.int .u64 t144)) (fun _ hk => hk.2) (.int .i64 t145)) (fun _ hk => hk.2) (.int .i64 t146)) (fun _ hk => hk.2) (.slice Ao56 t147.length co56)) (fun _ h_ => h_.1))))) (bS bA)); have n2_ := Ax.mk (bB (g := gb152) (o := .cells #[.int .u64 t144, .int .i64 t145, .int .i64 t146, .slice Ao56 t147.length co56] 25 (0, 0)) (by refine bT ?_; refine bU (cs := #[.int .u64 t144, .int .i64 t145, .int .i64 t146, .slice none 0 0]) ?_ 3 _ rfl; refine bT ?_; refine bU (cs := #[.int .u64 t144, .int .i64 t145, .int .i64 0, .slice none 0 0]) ?_ 2 _ rfl; refine bT ?_; refine bU (cs := #[.int .u64 t144, .int .i64 0, .int .i64 0, .slice none 0 0]) ?_ 1 _ rfl; refine bT ?_; refine bU (cs := #[.int .u64 0, .int .i64 0, .int .i64 0, .slice none 0 0]) ?_ 0 _ rfl; exact bT BK152.out) hb); have n3_ := Ax.mk (bP bA hb); clear HO149; clear BK152; clear HB; have HO149 := n0_; have HO158 := n1_; have BK152 := n2_; have HB := n3_; clear n0_ n1_ n2_ n3_; (try clear hb); (try clear hb2); (try clear hk); (try clear hi); (try clear ho0)) | ((with_reducible refine gate_dst (N := 8) rfl ?_); (try (refine gate_guard (by rfl) ?_; dsimp only)); refine box_event ?hg (N := 8) ?hd (cs := #[.int .u64 0, .int .i64 0, .int .i64 0, .slice none 0 0]) (t := 25) ?hr ?_; (case hd => rfl); (case hg => rfl); (case hr => first | (go_simp; done) | (go_simp; rfl)); intro gb161 hg w58 hbox hb; have n0_ := Ax.mk (Kd.R_below (by exact Kd.R_to HO149.out) hb); have n1_ := Ax.mk (Kd.R_below (by exact Kd.R_to HO158.out) hb); have n2_ := Ax.mk (bB (bT BK152.out) hb); have n3_ := Ax.mk (bP bA hb); have n4_ := Ax.mk (hbox); have n5_ := Ax.mk ((ge_new hg : w.heap.size ≤ gb161)); have n6_ := n5_; have n7_ := Ax.mk ((ne_lt hg BK152.out : gb152 ≠ gb161)); have n8_ := Ax.mk ((ne_gt hg BK152.out : gb161 ≠ gb152)); clear HO149; clear HO158; clear BK152; clear HB; have HO149 := n0_; have HO158 := n1_; have BK152 := n2_; have HB := n3_; have BK161 := n4_; have GW161 := n5_; have GE161 := n6_; have NB152_161 := n7_; have NB161_152 := n8_; clear n0_ n1_ n2_ n3_ n4_ n5_ n6_ n7_ n8_; clear hb hbox hg; have hnb59 := NB161_152.out; have hnc59 := NB152_161.out; have hcz60_0 : w58.cell? ⟨gb161, 0, none⟩ = some (.int .u64 0) := (bC BK161.out 0).trans rfl; have hcz60_1 : w58.cell? ⟨gb161, 1, none⟩ = some (.int .i64 0) := (bC BK161.out 1).trans rfl; have hcz60_2 : w58.cell? ⟨gb161, 2, none⟩ = some (.int .i64 0) := (bC BK161.out 2).trans rfl; have hcz60_3 : w58.cell? ⟨gb161, 3, none⟩ = some (.slice none 0 0) := (bC BK161.out 3).trans rfl; have hfz60_0 := bF BK161.out 0; have hfz60_1 := bF BK161.out 1; have hfz60_2 := bF BK161.out 2; have hfz60_3 := bF BK161.out 3; obtain ⟨Ao61, co61, eo61⟩ := Kd.R_slice HO158.out; subst eo61; have hcz62_0 : w58.cell? ⟨gb152, 0, none⟩ = some (.int .u64 t144) := (bC BK152.out 0).trans rfl; have hcz62_1 : w58.cell? ⟨gb152, 1, none⟩ = some (.int .i64 t145) := (bC BK152.out 1).trans rfl; have hcz62_2 : w58.cell? ⟨gb152, 2, none⟩ = some (.int .i64 t146) := (bC BK152.out 2).trans rfl; have hcz62_3 : w58.cell? ⟨gb152, 3, none⟩ = some (.slice Ao56 t147.length co56) := (bC BK152.out 3).trans rfl; have hfz62_0 := bF BK152.out 0; have hfz62_1 := bF BK152.out 1; have hfz62_2 := bF BK152.out 2; have hfz62_3 := bF BK152.out 3))
          go_ret
          exact ⟨by first | rfl | (simp [errW_none, errW_some] <;> rfl) | (simp [*, errW_none, errW_some] <;> rfl), bA⟩
        ·rw [if_neg c19] at H
         have c19b0 : (t151 == 0) = false := beq_eq_false_iff_ne.mpr c19
         have c19b1 : (t151 != 0) = true := bne_iff_ne.mpr c19
         obtain rfl := Option.some.inj H
         go_wp2_with (first | ((with_reducible refine gate_callee (f := 18) rfl ?_); refine goesL_ (some 42) rfl rfl Tryd.func18 (by kernel_rfl) rfl #[.string t140, .string t142] rfl (by (try simp only [List.map_toArray, List.map_cons, List.map_nil]); first | done | rfl | (simp only [List.length_drop, List.length_take]; rfl) | (rw [wrap_sum2 (by assumption)]; rfl)) ?_; (with_reducible refine (head_Choose.calls kj2 t140 t142 t144 t145 t146 t147 t150 t151 _ A13.out).mono ?_); rintro e w63 ⟨v148, rfl, ho0, hb⟩; refine ⟨_, rfl, ?_⟩; have n0_ := Ax.mk (Kd.R_lower ho0 (bS bA)); have n1_ := Ax.mk (bP bA hb); clear HB; have HO149 := n0_; have HB := n1_; clear n0_ n1_; (try clear hb); (try clear hb2); (try clear hk); (try clear hi); (try clear ho0)) | ((with_reducible refine gate_dst (N := 5) rfl ?_); (try (refine gate_guard (by rfl) ?_; dsimp only)); refine box_event ?hg (N := 5) ?hd (cs := #[.int .u64 0, .int .i64 0, .int .i64 0, .slice none 0 0]) (t := 25) ?hr ?_; (case hd => rfl); (case hg => rfl); (case hr => first | (go_simp; done) | (go_simp; rfl)); intro gb152 hg w64 hbox hb; have n0_ := Ax.mk (Kd.R_below (by exact Kd.R_to HO149.out) hb); have n1_ := Ax.mk (bP bA hb); have n2_ := Ax.mk (hbox); have n3_ := Ax.mk ((ge_new hg : w.heap.size ≤ gb152)); have n4_ := n3_; clear HO149; clear HB; have HO149 := n0_; have HB := n1_; have BK152 := n2_; have GW152 := n3_; have GE152 := n4_; clear n0_ n1_ n2_ n3_ n4_; clear hb hbox hg; have hcz65_0 : w64.cell? ⟨gb152, 0, none⟩ = some (.int .u64 0) := (bC BK152.out 0).trans rfl; have hcz65_1 : w64.cell? ⟨gb152, 1, none⟩ = some (.int .i64 0) := (bC BK152.out 1).trans rfl; have hcz65_2 : w64.cell? ⟨gb152, 2, none⟩ = some (.int .i64 0) := (bC BK152.out 2).trans rfl; have hcz65_3 : w64.cell? ⟨gb152, 3, none⟩ = some (.slice none 0 0) := (bC BK152.out 3).trans rfl; have hfz65_0 := bF BK152.out 0; have hfz65_1 := bF BK152.out 1; have hfz65_2 := bF BK152.out 2; have hfz65_3 := bF BK152.out 3; obtain ⟨Ao66, co66, eo66⟩ := Kd.R_slice HO149.out; subst eo66) | ((with_reducible refine gate_callee (f := 18) rfl ?_); refine goesL_ (some 51) rfl rfl Tryd.func18 (by kernel_rfl) rfl #[.string t140, .string ((⟨#[113]⟩ : ByteArray) ++ (t142.extract 1 t142.size))] rfl (by (try simp only [List.map_toArray, List.map_cons, List.map_nil]); first | done | rfl | (simp only [List.length_drop, List.length_take]; rfl) | (rw [wrap_sum2 (by assumption)]; rfl)) ?_; (with_reducible refine (head_Choose.calls kj2 t140 ((⟨#[113]⟩ : ByteArray) ++ (t142.extract 1 t142.size)) t153 t154 t155 t156 t159 t160 _ A16.out).mono ?_); rintro e w67 ⟨v157, rfl, ho0, hb⟩; refine ⟨_, rfl, ?_⟩; have n0_ := Ax.mk (Kd.R_elder' (by apply Kd.R_to; exact (Kd.R_mono (Kd.R_far (p := ⟨gb152, 3, none⟩) (Kd.R_far (p := ⟨gb152, 2, none⟩) (Kd.R_far (p := ⟨gb152, 1, none⟩) (Kd.R_far (p := ⟨gb152, 0, none⟩) (Kd.R_types HO149.out BK152.out (by decide)) (fun _ hk => hk.2) (.int .u64 t144)) (fun _ hk => hk.2) (.int .i64 t145)) (fun _ hk => hk.2) (.int .i64 t146)) (fun _ hk => hk.2) (.slice Ao66 t147.length co66)) (fun _ h_ => h_.1))) (Kd.R_base ho0) hb); have n1_ := Ax.mk (Kd.R_lower (Kd.R_new' ho0 (Kd.R_lt (by apply Kd.R_to; exact (Kd.R_mono (Kd.R_far (p := ⟨gb152, 3, none⟩) (Kd.R_far (p := ⟨gb152, 2, none⟩) (Kd.R_far (p := ⟨gb152, 1, none⟩) (Kd.R_far (p := ⟨gb152, 0, none⟩) (Kd.R_types HO149.out BK152.out (by decide)) (fun _ hk => hk.2) (.int .u64 t144)) (fun _ hk => hk.2) (.int .i64 t145)) (fun _ hk => hk.2) (.int .i64 t146)) (fun _ hk => hk.2) (.slice Ao66 t147.length co66)) (fun _ h_ => h_.1))))) (bS bA)); have n2_ := Ax.mk (bB (g := gb152) (o := .cells #[.int .u64 t144, .int .i64 t145, .int .i64 t146, .slice Ao66 t147.length co66] 25 (0, 0)) (by refine bT ?_; refine bU (cs := #[.int .u64 t144, .int .i64 t145, .int .i64 t146, .slice none 0 0]) ?_ 3 _ rfl; refine bT ?_; refine bU (cs := #[.int .u64 t144, .int .i64 t145, .int .i64 0, .slice none 0 0]) ?_ 2 _ rfl; refine bT ?_; refine bU (cs := #[.int .u64 t144, .int .i64 0, .int .i64 0, .slice none 0 0]) ?_ 1 _ rfl; refine bT ?_; refine bU (cs := #[.int .u64 0, .int .i64 0, .int .i64 0, .slice none 0 0]) ?_ 0 _ rfl; exact bT BK152.out) hb); have n3_ := Ax.mk (bP bA hb); clear HO149; clear BK152; clear HB; have HO149 := n0_; have HO158 := n1_; have BK152 := n2_; have HB := n3_; clear n0_ n1_ n2_ n3_; (try clear hb); (try clear hb2); (try clear hk); (try clear hi); (try clear ho0)) | ((with_reducible refine gate_dst (N := 8) rfl ?_); (try (refine gate_guard (by rfl) ?_; dsimp only)); refine box_event ?hg (N := 8) ?hd (cs := #[.int .u64 0, .int .i64 0, .int .i64 0, .slice none 0 0]) (t := 25) ?hr ?_; (case hd => rfl); (case hg => rfl); (case hr => first | (go_simp; done) | (go_simp; rfl)); intro gb161 hg w68 hbox hb; have n0_ := Ax.mk (Kd.R_below (by exact Kd.R_to HO149.out) hb); have n1_ := Ax.mk (Kd.R_below (by exact Kd.R_to HO158.out) hb); have n2_ := Ax.mk (bB (bT BK152.out) hb); have n3_ := Ax.mk (bP bA hb); have n4_ := Ax.mk (hbox); have n5_ := Ax.mk ((ge_new hg : w.heap.size ≤ gb161)); have n6_ := n5_; have n7_ := Ax.mk ((ne_lt hg BK152.out : gb152 ≠ gb161)); have n8_ := Ax.mk ((ne_gt hg BK152.out : gb161 ≠ gb152)); clear HO149; clear HO158; clear BK152; clear HB; have HO149 := n0_; have HO158 := n1_; have BK152 := n2_; have HB := n3_; have BK161 := n4_; have GW161 := n5_; have GE161 := n6_; have NB152_161 := n7_; have NB161_152 := n8_; clear n0_ n1_ n2_ n3_ n4_ n5_ n6_ n7_ n8_; clear hb hbox hg; have hnb69 := NB161_152.out; have hnc69 := NB152_161.out; have hcz70_0 : w68.cell? ⟨gb161, 0, none⟩ = some (.int .u64 0) := (bC BK161.out 0).trans rfl; have hcz70_1 : w68.cell? ⟨gb161, 1, none⟩ = some (.int .i64 0) := (bC BK161.out 1).trans rfl; have hcz70_2 : w68.cell? ⟨gb161, 2, none⟩ = some (.int .i64 0) := (bC BK161.out 2).trans rfl; have hcz70_3 : w68.cell? ⟨gb161, 3, none⟩ = some (.slice none 0 0) := (bC BK161.out 3).trans rfl; have hfz70_0 := bF BK161.out 0; have hfz70_1 := bF BK161.out 1; have hfz70_2 := bF BK161.out 2; have hfz70_3 := bF BK161.out 3; obtain ⟨Ao71, co71, eo71⟩ := Kd.R_slice HO158.out; subst eo71; have hcz72_0 : w68.cell? ⟨gb152, 0, none⟩ = some (.int .u64 t144) := (bC BK152.out 0).trans rfl; have hcz72_1 : w68.cell? ⟨gb152, 1, none⟩ = some (.int .i64 t145) := (bC BK152.out 1).trans rfl; have hcz72_2 : w68.cell? ⟨gb152, 2, none⟩ = some (.int .i64 t146) := (bC BK152.out 2).trans rfl; have hcz72_3 : w68.cell? ⟨gb152, 3, none⟩ = some (.slice Ao66 t147.length co66) := (bC BK152.out 3).trans rfl; have hfz72_0 := bF BK152.out 0; have hfz72_1 := bF BK152.out 1; have hfz72_2 := bF BK152.out 2; have hfz72_3 := bF BK152.out 3))
         go_ret
         exact ⟨by first | rfl | (simp [errW_none, errW_some] <;> rfl) | (simp [*, errW_none, errW_some] <;> rfl), bA⟩
       ·rw [if_neg c18] at H
        have c18b0 : (t150 == 1) = false := beq_eq_false_iff_ne.mpr c18
        have c18b1 : (t150 != 1) = true := bne_iff_ne.mpr c18
        obtain rfl := Option.some.inj H
        go_wp2_with (first | ((with_reducible refine gate_callee (f := 18) rfl ?_); refine goesL_ (some 42) rfl rfl Tryd.func18 (by kernel_rfl) rfl #[.string t140, .string t142] rfl (by (try simp only [List.map_toArray, List.map_cons, List.map_nil]); first | done | rfl | (simp only [List.length_drop, List.length_take]; rfl) | (rw [wrap_sum2 (by assumption)]; rfl)) ?_; (with_reducible refine (head_Choose.calls kj2 t140 t142 t144 t145 t146 t147 t150 t151 _ A13.out).mono ?_); rintro e w73 ⟨v148, rfl, ho0, hb⟩; refine ⟨_, rfl, ?_⟩; have n0_ := Ax.mk (Kd.R_lower ho0 (bS bA)); have n1_ := Ax.mk (bP bA hb); clear HB; have HO149 := n0_; have HB := n1_; clear n0_ n1_; (try clear hb); (try clear hb2); (try clear hk); (try clear hi); (try clear ho0)) | ((with_reducible refine gate_dst (N := 5) rfl ?_); (try (refine gate_guard (by rfl) ?_; dsimp only)); refine box_event ?hg (N := 5) ?hd (cs := #[.int .u64 0, .int .i64 0, .int .i64 0, .slice none 0 0]) (t := 25) ?hr ?_; (case hd => rfl); (case hg => rfl); (case hr => first | (go_simp; done) | (go_simp; rfl)); intro gb152 hg w74 hbox hb; have n0_ := Ax.mk (Kd.R_below (by exact Kd.R_to HO149.out) hb); have n1_ := Ax.mk (bP bA hb); have n2_ := Ax.mk (hbox); have n3_ := Ax.mk ((ge_new hg : w.heap.size ≤ gb152)); have n4_ := n3_; clear HO149; clear HB; have HO149 := n0_; have HB := n1_; have BK152 := n2_; have GW152 := n3_; have GE152 := n4_; clear n0_ n1_ n2_ n3_ n4_; clear hb hbox hg; have hcz75_0 : w74.cell? ⟨gb152, 0, none⟩ = some (.int .u64 0) := (bC BK152.out 0).trans rfl; have hcz75_1 : w74.cell? ⟨gb152, 1, none⟩ = some (.int .i64 0) := (bC BK152.out 1).trans rfl; have hcz75_2 : w74.cell? ⟨gb152, 2, none⟩ = some (.int .i64 0) := (bC BK152.out 2).trans rfl; have hcz75_3 : w74.cell? ⟨gb152, 3, none⟩ = some (.slice none 0 0) := (bC BK152.out 3).trans rfl; have hfz75_0 := bF BK152.out 0; have hfz75_1 := bF BK152.out 1; have hfz75_2 := bF BK152.out 2; have hfz75_3 := bF BK152.out 3; obtain ⟨Ao76, co76, eo76⟩ := Kd.R_slice HO149.out; subst eo76) | ((with_reducible refine gate_callee (f := 18) rfl ?_); refine goesL_ (some 51) rfl rfl Tryd.func18 (by kernel_rfl) rfl #[.string t140, .string ((⟨#[113]⟩ : ByteArray) ++ (t142.extract 1 t142.size))] rfl (by (try simp only [List.map_toArray, List.map_cons, List.map_nil]); first | done | rfl | (simp only [List.length_drop, List.length_take]; rfl) | (rw [wrap_sum2 (by assumption)]; rfl)) ?_; (with_reducible refine (head_Choose.calls kj2 t140 ((⟨#[113]⟩ : ByteArray) ++ (t142.extract 1 t142.size)) t153 t154 t155 t156 t159 t160 _ A16.out).mono ?_); rintro e w77 ⟨v157, rfl, ho0, hb⟩; refine ⟨_, rfl, ?_⟩; have n0_ := Ax.mk (Kd.R_elder' (by apply Kd.R_to; exact (Kd.R_mono (Kd.R_far (p := ⟨gb152, 3, none⟩) (Kd.R_far (p := ⟨gb152, 2, none⟩) (Kd.R_far (p := ⟨gb152, 1, none⟩) (Kd.R_far (p := ⟨gb152, 0, none⟩) (Kd.R_types HO149.out BK152.out (by decide)) (fun _ hk => hk.2) (.int .u64 t144)) (fun _ hk => hk.2) (.int .i64 t145)) (fun _ hk => hk.2) (.int .i64 t146)) (fun _ hk => hk.2) (.slice Ao76 t147.length co76)) (fun _ h_ => h_.1))) (Kd.R_base ho0) hb); have n1_ := Ax.mk (Kd.R_lower (Kd.R_new' ho0 (Kd.R_lt (by apply Kd.R_to; exact (Kd.R_mono (Kd.R_far (p := ⟨gb152, 3, none⟩) (Kd.R_far (p := ⟨gb152, 2, none⟩) (Kd.R_far (p := ⟨gb152, 1, none⟩) (Kd.R_far (p := ⟨gb152, 0, none⟩) (Kd.R_types HO149.out BK152.out (by decide)) (fun _ hk => hk.2) (.int .u64 t144)) (fun _ hk => hk.2) (.int .i64 t145)) (fun _ hk => hk.2) (.int .i64 t146)) (fun _ hk => hk.2) (.slice Ao76 t147.length co76)) (fun _ h_ => h_.1))))) (bS bA)); have n2_ := Ax.mk (bB (g := gb152) (o := .cells #[.int .u64 t144, .int .i64 t145, .int .i64 t146, .slice Ao76 t147.length co76] 25 (0, 0)) (by refine bT ?_; refine bU (cs := #[.int .u64 t144, .int .i64 t145, .int .i64 t146, .slice none 0 0]) ?_ 3 _ rfl; refine bT ?_; refine bU (cs := #[.int .u64 t144, .int .i64 t145, .int .i64 0, .slice none 0 0]) ?_ 2 _ rfl; refine bT ?_; refine bU (cs := #[.int .u64 t144, .int .i64 0, .int .i64 0, .slice none 0 0]) ?_ 1 _ rfl; refine bT ?_; refine bU (cs := #[.int .u64 0, .int .i64 0, .int .i64 0, .slice none 0 0]) ?_ 0 _ rfl; exact bT BK152.out) hb); have n3_ := Ax.mk (bP bA hb); clear HO149; clear BK152; clear HB; have HO149 := n0_; have HO158 := n1_; have BK152 := n2_; have HB := n3_; clear n0_ n1_ n2_ n3_; (try clear hb); (try clear hb2); (try clear hk); (try clear hi); (try clear ho0)) | ((with_reducible refine gate_dst (N := 8) rfl ?_); (try (refine gate_guard (by rfl) ?_; dsimp only)); refine box_event ?hg (N := 8) ?hd (cs := #[.int .u64 0, .int .i64 0, .int .i64 0, .slice none 0 0]) (t := 25) ?hr ?_; (case hd => rfl); (case hg => rfl); (case hr => first | (go_simp; done) | (go_simp; rfl)); intro gb161 hg w78 hbox hb; have n0_ := Ax.mk (Kd.R_below (by exact Kd.R_to HO149.out) hb); have n1_ := Ax.mk (Kd.R_below (by exact Kd.R_to HO158.out) hb); have n2_ := Ax.mk (bB (bT BK152.out) hb); have n3_ := Ax.mk (bP bA hb); have n4_ := Ax.mk (hbox); have n5_ := Ax.mk ((ge_new hg : w.heap.size ≤ gb161)); have n6_ := n5_; have n7_ := Ax.mk ((ne_lt hg BK152.out : gb152 ≠ gb161)); have n8_ := Ax.mk ((ne_gt hg BK152.out : gb161 ≠ gb152)); clear HO149; clear HO158; clear BK152; clear HB; have HO149 := n0_; have HO158 := n1_; have BK152 := n2_; have HB := n3_; have BK161 := n4_; have GW161 := n5_; have GE161 := n6_; have NB152_161 := n7_; have NB161_152 := n8_; clear n0_ n1_ n2_ n3_ n4_ n5_ n6_ n7_ n8_; clear hb hbox hg; have hnb79 := NB161_152.out; have hnc79 := NB152_161.out; have hcz80_0 : w78.cell? ⟨gb161, 0, none⟩ = some (.int .u64 0) := (bC BK161.out 0).trans rfl; have hcz80_1 : w78.cell? ⟨gb161, 1, none⟩ = some (.int .i64 0) := (bC BK161.out 1).trans rfl; have hcz80_2 : w78.cell? ⟨gb161, 2, none⟩ = some (.int .i64 0) := (bC BK161.out 2).trans rfl; have hcz80_3 : w78.cell? ⟨gb161, 3, none⟩ = some (.slice none 0 0) := (bC BK161.out 3).trans rfl; have hfz80_0 := bF BK161.out 0; have hfz80_1 := bF BK161.out 1; have hfz80_2 := bF BK161.out 2; have hfz80_3 := bF BK161.out 3; obtain ⟨Ao81, co81, eo81⟩ := Kd.R_slice HO158.out; subst eo81; have hcz82_0 : w78.cell? ⟨gb152, 0, none⟩ = some (.int .u64 t144) := (bC BK152.out 0).trans rfl; have hcz82_1 : w78.cell? ⟨gb152, 1, none⟩ = some (.int .i64 t145) := (bC BK152.out 1).trans rfl; have hcz82_2 : w78.cell? ⟨gb152, 2, none⟩ = some (.int .i64 t146) := (bC BK152.out 2).trans rfl; have hcz82_3 : w78.cell? ⟨gb152, 3, none⟩ = some (.slice Ao76 t147.length co76) := (bC BK152.out 3).trans rfl; have hfz82_0 := bF BK152.out 0; have hfz82_1 := bF BK152.out 1; have hfz82_2 := bF BK152.out 2; have hfz82_3 := bF BK152.out 3))
        go_ret
        exact ⟨by first | rfl | (simp [errW_none, errW_some] <;> rfl) | (simp [*, errW_none, errW_some] <;> rfl), bA⟩
      ·rw [if_neg c17] at H
       have c17b0 : (t144 == 8) = false := beq_eq_false_iff_ne.mpr c17
       have c17b1 : (t144 != 8) = true := bne_iff_ne.mpr c17
       obtain rfl := Option.some.inj H
       go_wp2_with (first | ((with_reducible refine gate_callee (f := 18) rfl ?_); refine goesL_ (some 42) rfl rfl Tryd.func18 (by kernel_rfl) rfl #[.string t140, .string t142] rfl (by (try simp only [List.map_toArray, List.map_cons, List.map_nil]); first | done | rfl | (simp only [List.length_drop, List.length_take]; rfl) | (rw [wrap_sum2 (by assumption)]; rfl)) ?_; (with_reducible refine (head_Choose.calls kj2 t140 t142 t144 t145 t146 t147 t150 t151 _ A13.out).mono ?_); rintro e w83 ⟨v148, rfl, ho0, hb⟩; refine ⟨_, rfl, ?_⟩; have n0_ := Ax.mk (Kd.R_lower ho0 (bS bA)); have n1_ := Ax.mk (bP bA hb); clear HB; have HO149 := n0_; have HB := n1_; clear n0_ n1_; (try clear hb); (try clear hb2); (try clear hk); (try clear hi); (try clear ho0)) | ((with_reducible refine gate_dst (N := 5) rfl ?_); (try (refine gate_guard (by rfl) ?_; dsimp only)); refine box_event ?hg (N := 5) ?hd (cs := #[.int .u64 0, .int .i64 0, .int .i64 0, .slice none 0 0]) (t := 25) ?hr ?_; (case hd => rfl); (case hg => rfl); (case hr => first | (go_simp; done) | (go_simp; rfl)); intro gb152 hg w84 hbox hb; have n0_ := Ax.mk (Kd.R_below (by exact Kd.R_to HO149.out) hb); have n1_ := Ax.mk (bP bA hb); have n2_ := Ax.mk (hbox); have n3_ := Ax.mk ((ge_new hg : w.heap.size ≤ gb152)); have n4_ := n3_; clear HO149; clear HB; have HO149 := n0_; have HB := n1_; have BK152 := n2_; have GW152 := n3_; have GE152 := n4_; clear n0_ n1_ n2_ n3_ n4_; clear hb hbox hg; have hcz85_0 : w84.cell? ⟨gb152, 0, none⟩ = some (.int .u64 0) := (bC BK152.out 0).trans rfl; have hcz85_1 : w84.cell? ⟨gb152, 1, none⟩ = some (.int .i64 0) := (bC BK152.out 1).trans rfl; have hcz85_2 : w84.cell? ⟨gb152, 2, none⟩ = some (.int .i64 0) := (bC BK152.out 2).trans rfl; have hcz85_3 : w84.cell? ⟨gb152, 3, none⟩ = some (.slice none 0 0) := (bC BK152.out 3).trans rfl; have hfz85_0 := bF BK152.out 0; have hfz85_1 := bF BK152.out 1; have hfz85_2 := bF BK152.out 2; have hfz85_3 := bF BK152.out 3; obtain ⟨Ao86, co86, eo86⟩ := Kd.R_slice HO149.out; subst eo86) | ((with_reducible refine gate_callee (f := 18) rfl ?_); refine goesL_ (some 51) rfl rfl Tryd.func18 (by kernel_rfl) rfl #[.string t140, .string ((⟨#[113]⟩ : ByteArray) ++ (t142.extract 1 t142.size))] rfl (by (try simp only [List.map_toArray, List.map_cons, List.map_nil]); first | done | rfl | (simp only [List.length_drop, List.length_take]; rfl) | (rw [wrap_sum2 (by assumption)]; rfl)) ?_; (with_reducible refine (head_Choose.calls kj2 t140 ((⟨#[113]⟩ : ByteArray) ++ (t142.extract 1 t142.size)) t153 t154 t155 t156 t159 t160 _ A16.out).mono ?_); rintro e w87 ⟨v157, rfl, ho0, hb⟩; refine ⟨_, rfl, ?_⟩; have n0_ := Ax.mk (Kd.R_elder' (by apply Kd.R_to; exact (Kd.R_mono (Kd.R_far (p := ⟨gb152, 3, none⟩) (Kd.R_far (p := ⟨gb152, 2, none⟩) (Kd.R_far (p := ⟨gb152, 1, none⟩) (Kd.R_far (p := ⟨gb152, 0, none⟩) (Kd.R_types HO149.out BK152.out (by decide)) (fun _ hk => hk.2) (.int .u64 t144)) (fun _ hk => hk.2) (.int .i64 t145)) (fun _ hk => hk.2) (.int .i64 t146)) (fun _ hk => hk.2) (.slice Ao86 t147.length co86)) (fun _ h_ => h_.1))) (Kd.R_base ho0) hb); have n1_ := Ax.mk (Kd.R_lower (Kd.R_new' ho0 (Kd.R_lt (by apply Kd.R_to; exact (Kd.R_mono (Kd.R_far (p := ⟨gb152, 3, none⟩) (Kd.R_far (p := ⟨gb152, 2, none⟩) (Kd.R_far (p := ⟨gb152, 1, none⟩) (Kd.R_far (p := ⟨gb152, 0, none⟩) (Kd.R_types HO149.out BK152.out (by decide)) (fun _ hk => hk.2) (.int .u64 t144)) (fun _ hk => hk.2) (.int .i64 t145)) (fun _ hk => hk.2) (.int .i64 t146)) (fun _ hk => hk.2) (.slice Ao86 t147.length co86)) (fun _ h_ => h_.1))))) (bS bA)); have n2_ := Ax.mk (bB (g := gb152) (o := .cells #[.int .u64 t144, .int .i64 t145, .int .i64 t146, .slice Ao86 t147.length co86] 25 (0, 0)) (by refine bT ?_; refine bU (cs := #[.int .u64 t144, .int .i64 t145, .int .i64 t146, .slice none 0 0]) ?_ 3 _ rfl; refine bT ?_; refine bU (cs := #[.int .u64 t144, .int .i64 t145, .int .i64 0, .slice none 0 0]) ?_ 2 _ rfl; refine bT ?_; refine bU (cs := #[.int .u64 t144, .int .i64 0, .int .i64 0, .slice none 0 0]) ?_ 1 _ rfl; refine bT ?_; refine bU (cs := #[.int .u64 0, .int .i64 0, .int .i64 0, .slice none 0 0]) ?_ 0 _ rfl; exact bT BK152.out) hb); have n3_ := Ax.mk (bP bA hb); clear HO149; clear BK152; clear HB; have HO149 := n0_; have HO158 := n1_; have BK152 := n2_; have HB := n3_; clear n0_ n1_ n2_ n3_; (try clear hb); (try clear hb2); (try clear hk); (try clear hi); (try clear ho0)) | ((with_reducible refine gate_dst (N := 8) rfl ?_); (try (refine gate_guard (by rfl) ?_; dsimp only)); refine box_event ?hg (N := 8) ?hd (cs := #[.int .u64 0, .int .i64 0, .int .i64 0, .slice none 0 0]) (t := 25) ?hr ?_; (case hd => rfl); (case hg => rfl); (case hr => first | (go_simp; done) | (go_simp; rfl)); intro gb161 hg w88 hbox hb; have n0_ := Ax.mk (Kd.R_below (by exact Kd.R_to HO149.out) hb); have n1_ := Ax.mk (Kd.R_below (by exact Kd.R_to HO158.out) hb); have n2_ := Ax.mk (bB (bT BK152.out) hb); have n3_ := Ax.mk (bP bA hb); have n4_ := Ax.mk (hbox); have n5_ := Ax.mk ((ge_new hg : w.heap.size ≤ gb161)); have n6_ := n5_; have n7_ := Ax.mk ((ne_lt hg BK152.out : gb152 ≠ gb161)); have n8_ := Ax.mk ((ne_gt hg BK152.out : gb161 ≠ gb152)); clear HO149; clear HO158; clear BK152; clear HB; have HO149 := n0_; have HO158 := n1_; have BK152 := n2_; have HB := n3_; have BK161 := n4_; have GW161 := n5_; have GE161 := n6_; have NB152_161 := n7_; have NB161_152 := n8_; clear n0_ n1_ n2_ n3_ n4_ n5_ n6_ n7_ n8_; clear hb hbox hg; have hnb89 := NB161_152.out; have hnc89 := NB152_161.out; have hcz90_0 : w88.cell? ⟨gb161, 0, none⟩ = some (.int .u64 0) := (bC BK161.out 0).trans rfl; have hcz90_1 : w88.cell? ⟨gb161, 1, none⟩ = some (.int .i64 0) := (bC BK161.out 1).trans rfl; have hcz90_2 : w88.cell? ⟨gb161, 2, none⟩ = some (.int .i64 0) := (bC BK161.out 2).trans rfl; have hcz90_3 : w88.cell? ⟨gb161, 3, none⟩ = some (.slice none 0 0) := (bC BK161.out 3).trans rfl; have hfz90_0 := bF BK161.out 0; have hfz90_1 := bF BK161.out 1; have hfz90_2 := bF BK161.out 2; have hfz90_3 := bF BK161.out 3; obtain ⟨Ao91, co91, eo91⟩ := Kd.R_slice HO158.out; subst eo91; have hcz92_0 : w88.cell? ⟨gb152, 0, none⟩ = some (.int .u64 t144) := (bC BK152.out 0).trans rfl; have hcz92_1 : w88.cell? ⟨gb152, 1, none⟩ = some (.int .i64 t145) := (bC BK152.out 1).trans rfl; have hcz92_2 : w88.cell? ⟨gb152, 2, none⟩ = some (.int .i64 t146) := (bC BK152.out 2).trans rfl; have hcz92_3 : w88.cell? ⟨gb152, 3, none⟩ = some (.slice Ao86 t147.length co86) := (bC BK152.out 3).trans rfl; have hfz92_0 := bF BK152.out 0; have hfz92_1 := bF BK152.out 1; have hfz92_2 := bF BK152.out 2; have hfz92_3 := bF BK152.out 3))
       go_ret
       exact ⟨by first | rfl | (simp [errW_none, errW_some] <;> rfl) | (simp [*, errW_none, errW_some] <;> rfl), bA⟩
     ·rw [if_neg c15] at H
      exact absurd H (by simp)
    ·rw [if_neg c14] at H
     exact absurd H (by simp)
end Go.Proofs.YtcgejogmiglalaaDoor.Fn
end
section
namespace Go.Proofs.YtcgejogmiglalaaDoor.Fn
open Go.RowKit Go.Proofs.YtcgejogmiglalaaDoorW.PrintWords Go.Proofs.YtcgejogmiglalaaDoorW.PrintLast Go.Proofs.YtcgejogmiglalaaDoorW.PrintMore Go.Proofs.YtcgejogmiglalaaDoor.Lf
attribute [local go_sem] max2_int min2_int max_two min_two max_three min_three max_four min_four   -- for this text's walks alone
set_option linter.unusedVariables false
set_option linter.unusedSimpArgs false
def l6_as.f (a0_0 a0_1 a0_2 : Int) (l0_3 : List S53) : Option (Int × Int × Int × List S53) := some (a0_0, a0_1, a0_2, l0_3)
set_option maxHeartbeats 4000000 in
set_option maxRecDepth 100000 in
theorem l6_as.calls (a0_0 a0_1 a0_2 : Int) (P0_ : Nat → Prop) (A0_3 : Option Addr) (c0_3 : Nat) (l0_3 : List S53) (r1 r2 r3 : Int) (r4 : List S53) (w : World) (hs0_3 : Kd.V k53 53 w w.heap.size (fun k_ => P0_ k_) (.slice A0_3 l0_3.length c0_3) l0_3) (h : l6_as.f a0_0 a0_1 a0_2 l0_3 = some (r1, r2, r3, r4)) :
  Calls Tryd.prog 12 #[.agg #[.int .u64 a0_0, .int .i64 a0_1, .int .i64 a0_2, .slice A0_3 l0_3.length c0_3]] w fun e w' => ∃ v1_ : Value, e = .returned (.agg #[.int .u64 r1, .int .i64 r2, .int .i64 r3, v1_]) ∧ Kd.V k53 53 w' w.heap.size (fun k_ => (P0_ k_ ∨ w.heap.size ≤ k_)) v1_ r4 ∧ Below w.heap.size w w' := by
 cases h
 have HV := Ax.mk hs0_3
 clear hs0_3
 go_enter Tryd.func12, Tryd.ntmps12
 go_wp2
 have hb := below_alloc (below_alloc (Below.refl w.heap.size w) (.cells #[.int .u64 a0_0, .int .i64 a0_1, .int .i64 a0_2, .slice A0_3 l0_3.length c0_3] 25)) (.cells #[.int .u64 a0_0, .int .i64 a0_1, .int .i64 a0_2, .slice A0_3 l0_3.length c0_3] 31)
 exact bodyPost_ret (v := .agg #[.int .u64 a0_0, .int .i64 a0_1, .int .i64 a0_2, .slice A0_3 l0_3.length c0_3]) (by simp [results, Tryd.results12, go_sem]) rfl ⟨_, rfl, Kd.V_mono (Kd.V_below HV.out hb) (fun _ hk => .inl hk), hb⟩
end Go.Proofs.YtcgejogmiglalaaDoor.Fn
end
section
namespace Go.Proofs.YtcgejogmiglalaaDoor.Fn
open Go.RowKit Go.Proofs.YtcgejogmiglalaaDoorW.PrintWords Go.Proofs.YtcgejogmiglalaaDoorW.PrintLast Go.Proofs.YtcgejogmiglalaaDoorW.PrintMore Go.Proofs.YtcgejogmiglalaaDoor.Lf
open List (setIfInBounds_toArray set_cons_zero set_cons_succ)
attribute [local go_sem] max2_int min2_int max_two min_two max_three min_three max_four min_four   -- for this text's walks alone
set_option linter.unusedVariables false
set_option linter.unusedSimpArgs false
mutual
def l6_HeadApart.j0 : Nat → Bool → Bool → Int → Int → Int → List (S53) → Int → Int → Int → List (S53) → Option (Bool)
 | 0, _, _, _, _, _, _, _, _, _, _ => none
 | k + 1, x5, x24, x348000, x348001, x348002, x348003, x349000, x349001, x349002, x349003 => if x24 = true then (some x5) else ((head_Put.f k x348000 x348001 x348002 x348003).bind fun bt350 => ((head_Put.f k x349000 x349001 x349002 x349003).bind fun bt352 => (if bt350.2 = 0 then (l6_HeadApart.j1 k bt350.1 bt350.2 bt352.1 bt352.2 (bt352.2 != 0) x348000 x348001 x348002 x348003 x349000 x349001 x349002 x349003) else (l6_HeadApart.j1 k bt350.1 bt350.2 bt352.1 bt352.2 true x348000 x348001 x348002 x348003 x349000 x349001 x349002 x349003))))
def l6_HeadApart.j1 : Nat → ByteArray → Int → ByteArray → Int → Bool → Int → Int → Int → List (S53) → Int → Int → Int → List (S53) → Option (Bool)
 | 0, _, _, _, _, _, _, _, _, _, _, _, _, _ => none
 | k + 1, x6, x7, x8, x9, x41, x348000, x348001, x348002, x348003, x349000, x349001, x349002, x349003 => if x41 = true then ((head_Right.f k x348000 x348001 x348002 x348003).bind fun t354 => (if ((x7 == 0) == t354) = true then ((head_Right.f k x349000 x349001 x349002 x349003).bind fun t355 => (some ((x9 == 0) == t355))) else (some false))) else ((l6_as.f x349000 x349001 x349002 x349003).bind fun bt356 => ((l6_same.f k x348000 x348001 x348002 x348003 bt356.1 bt356.2.1 bt356.2.2.1 bt356.2.2.2).bind fun t362 => (if ((x6.toList == x8.toList) == t362) = true then (if 0 ≤ 4 then (if 4 ≤ (x6.size : Int) then (if (x6.extract 0 4).toList = ([114, 116, 99, 108] : List UInt8) then (if 4 ≤ (x8.size : Int) then (some ((x8.extract 0 4).toList == ([114, 116, 99, 108] : List UInt8))) else (none)) else (some false)) else (none)) else (none)) else (some false))))
end
def l6_HeadApart.f (k : Nat) (a0_0 : Int) (a0_1 : Int) (a0_2 : Int) (l0_3 : List (S53)) (a1_0 : Int) (a1_1 : Int) (a1_2 : Int) (l1_3 : List (S53)) : Option (Bool) := (l6_shown.f k).bind fun t349 => (if t349 = true then (if (l0_3.length : Int) > 20 then (l6_HeadApart.j0 k t349 true a0_0 a0_1 a0_2 l0_3 a1_0 a1_1 a1_2 l1_3) else (l6_HeadApart.j0 k t349 (decide ((l1_3.length : Int) > 20)) a0_0 a0_1 a0_2 l0_3 a1_0 a1_1 a1_2 l1_3)) else (l6_HeadApart.j0 k t349 true a0_0 a0_1 a0_2 l0_3 a1_0 a1_1 a1_2 l1_3))
theorem l6_HeadApart.mono_l : ∀ k, (∀ y0 y1 y2 y3 y4 y5 y6 y7 y8 y9, LeO (l6_HeadApart.j0 k y0 y1 y2 y3 y4 y5 y6 y7 y8 y9) (l6_HeadApart.j0 (k + 1) y0 y1 y2 y3 y4 y5 y6 y7 y8 y9)) ∧ (∀ y0 y1 y2 y3 y4 y5 y6 y7 y8 y9 y10 y11 y12, LeO (l6_HeadApart.j1 k y0 y1 y2 y3 y4 y5 y6 y7 y8 y9 y10 y11 y12) (l6_HeadApart.j1 (k + 1) y0 y1 y2 y3 y4 y5 y6 y7 y8 y9 y10 y11 y12))
 | 0 => ⟨fun _ _ _ _ _ _ _ _ _ _ r h => by simp [l6_HeadApart.j0] at h, fun _ _ _ _ _ _ _ _ _ _ _ _ _ r h => by simp [l6_HeadApart.j1] at h⟩
 | k + 1 => by
  obtain ⟨ih0, ih1⟩ := l6_HeadApart.mono_l k
  refine ⟨?_, ?_⟩
  ·intro y0 y1 y2 y3 y4 y5 y6 y7 y8 y9
   unfold l6_HeadApart.j0
   repeat' first
   | (with_reducible exact ih0 _ _ _ _ _ _ _ _ _ _)
   | (with_reducible exact ih1 _ _ _ _ _ _ _ _ _ _ _ _ _)
   | (with_reducible exact head_Put.mono _ _ _ _ _)
   | (with_reducible exact head_Right.mono _ _ _ _ _)
   | (with_reducible exact l6_same.mono _ _ _ _ _ _ _ _ _)
   | (with_reducible exact l6_shown.mono _)
   | (with_reducible exact LeO.refl _)
   | (with_reducible exact LeO.none _)
   | (with_reducible refine LeO.ite ?_ ?_)
   | (with_reducible refine LeO.bind ?_ (fun _ => ?_))
   | exact ih0 _ _ _ _ _ _ _ _ _ _
   | exact ih1 _ _ _ _ _ _ _ _ _ _ _ _ _
   | exact head_Put.mono _ _ _ _ _
   | exact head_Right.mono _ _ _ _ _
   | exact l6_same.mono _ _ _ _ _ _ _ _ _
   | exact l6_shown.mono _
   | exact LeO.none _
   | refine LeO.ite ?_ ?_
   | refine LeO.bind ?_ (fun _ => ?_)
  ·intro y0 y1 y2 y3 y4 y5 y6 y7 y8 y9 y10 y11 y12
   unfold l6_HeadApart.j1
   repeat' first
   | (with_reducible exact ih0 _ _ _ _ _ _ _ _ _ _)
   | (with_reducible exact ih1 _ _ _ _ _ _ _ _ _ _ _ _ _)
   | (with_reducible exact head_Put.mono _ _ _ _ _)
   | (with_reducible exact head_Right.mono _ _ _ _ _)
   | (with_reducible exact l6_same.mono _ _ _ _ _ _ _ _ _)
   | (with_reducible exact l6_shown.mono _)
   | (with_reducible exact LeO.refl _)
   | (with_reducible exact LeO.none _)
   | (with_reducible refine LeO.ite ?_ ?_)
   | (with_reducible refine LeO.bind ?_ (fun _ => ?_))
   | exact ih0 _ _ _ _ _ _ _ _ _ _
   | exact ih1 _ _ _ _ _ _ _ _ _ _ _ _ _
   | exact head_Put.mono _ _ _ _ _
   | exact head_Right.mono _ _ _ _ _
   | exact l6_same.mono _ _ _ _ _ _ _ _ _
   | exact l6_shown.mono _
   | exact LeO.none _
   | refine LeO.ite ?_ ?_
   | refine LeO.bind ?_ (fun _ => ?_)
theorem l6_HeadApart.mono : ∀ a0 a1 a2 a3 a4 a5 a6 a7 k, LeO (l6_HeadApart.f k a0 a1 a2 a3 a4 a5 a6 a7) (l6_HeadApart.f (k + 1) a0 a1 a2 a3 a4 a5 a6 a7) := by
 intro a0 a1 a2 a3 a4 a5 a6 a7 k
 obtain ⟨ih0, ih1⟩ := l6_HeadApart.mono_l k
 unfold l6_HeadApart.f
 repeat' first
   | (with_reducible exact ih0 _ _ _ _ _ _ _ _ _ _)
   | (with_reducible exact ih1 _ _ _ _ _ _ _ _ _ _ _ _ _)
   | (with_reducible exact head_Put.mono _ _ _ _ _)
   | (with_reducible exact head_Right.mono _ _ _ _ _)
   | (with_reducible exact l6_same.mono _ _ _ _ _ _ _ _ _)
   | (with_reducible exact l6_shown.mono _)
   | (with_reducible exact LeO.refl _)
   | (with_reducible exact LeO.none _)
   | (with_reducible refine LeO.ite ?_ ?_)
   | (with_reducible refine LeO.bind ?_ (fun _ => ?_))
   | exact ih0 _ _ _ _ _ _ _ _ _ _
   | exact ih1 _ _ _ _ _ _ _ _ _ _ _ _ _
   | exact head_Put.mono _ _ _ _ _
   | exact head_Right.mono _ _ _ _ _
   | exact l6_same.mono _ _ _ _ _ _ _ _ _
   | exact l6_shown.mono _
   | exact LeO.none _
   | refine LeO.ite ?_ ?_
   | refine LeO.bind ?_ (fun _ => ?_)
def l6_HeadApart.T8 : Bool × List (List Nat × List Nat) := (true, [([], []), ([], []), ([0, 1], [0, 1]), ([], []), ([], []), ([4], [4]), ([3, 5, 5], [3, 5]), ([2, 6], [2, 6]), ([7, 6], [7]), ([8], [8]), ([9, 8], [8, 9]), ([10, 8], [8, 10]), ([8, 11], [8, 11]), ([12, 8], [12]), ([13], [13]), ([14, 13], [13, 14]), ([15, 13], [13, 15]), ([13, 16], [13, 16]), ([17, 13, 0, 1, 2, 3, 4, 5, 6, 7, 8, 9, 10, 11, 12, 13, 14, 15, 16, 17], [17])])
def l6_HeadApart.B8 : List Nat := [0, 0, 3, 0, 0, 16, 56, 127, 255, 511, 1023, 2047, 4095, 8191, 16383, 32767, 65535, 131071, 262143]
theorem l6_HeadApart.tab8 : rtab .any (opsOf Tryd.f7 8) = l6_HeadApart.T8 := by kernel_rfl
theorem l6_HeadApart.bits8 : waitsOk l6_HeadApart.T8.2 l6_HeadApart.B8 = true := by kernel_rfl
set_option maxHeartbeats 8000000 in
set_option maxRecDepth 100000 in
theorem l6_HeadApart.calls (k : Nat) (a0_0 : Int) (a0_1 : Int) (a0_2 : Int) (A0_3 : Option Addr) (c0_3 : Nat) (l0_3 : List (S53)) (a1_0 : Int) (a1_1 : Int) (a1_2 : Int) (A1_3 : Option Addr) (c1_3 : Nat) (l1_3 : List (S53)) (r : Bool) (w : World) (hr0_3 : Kd.C k53 w A0_3 l0_3.length l0_3) (hc0_3 : l0_3.length ≤ c0_3) (hr1_3 : Kd.C k53 w A1_3 l1_3.length l1_3) (hc1_3 : l1_3.length ≤ c1_3) (h : l6_HeadApart.f k a0_0 a0_1 a0_2 l0_3 a1_0 a1_1 a1_2 l1_3 = some r) :
  Calls Tryd.prog 7 #[.agg #[.int .u64 a0_0, .int .i64 a0_1, .int .i64 a0_2, .slice A0_3 l0_3.length c0_3], .agg #[.int .u64 a1_0, .int .i64 a1_1, .int .i64 a1_2, .slice A1_3 l1_3.length c1_3]] w fun e w' => e = .returned (.bool r) ∧ Below w.heap.size w w' := by
 have hu25 := Tryd.underlying25
 have HR0_3 := Ax.mk hr0_3
 have HC0_3 := Ax.mk hc0_3
 clear hr0_3 hc0_3
 have HR1_3 := Ax.mk hr1_3
 have HC1_3 := Ax.mk hc1_3
 clear hr1_3 hc1_3
 have HB := Ax.mk (Below.refl w.heap.size w)
 have H : ((l6_shown.f k).bind fun t349 => (if t349 = true then (if (l0_3.length : Int) > 20 then (l6_HeadApart.j0 k t349 true a0_0 a0_1 a0_2 l0_3 a1_0 a1_1 a1_2 l1_3) else (l6_HeadApart.j0 k t349 (decide ((l1_3.length : Int) > 20)) a0_0 a0_1 a0_2 l0_3 a1_0 a1_1 a1_2 l1_3)) else (l6_HeadApart.j0 k t349 true a0_0 a0_1 a0_2 l0_3 a1_0 a1_1 a1_2 l1_3))) = some r := h
 clear h
 replace H := Option.bind_eq_some_iff.mp H
 obtain ⟨t349, A30, H⟩ := H
 replace H : (if t349 = true then (if (l0_3.length : Int) > 20 then (l6_HeadApart.j0 k t349 true a0_0 a0_1 a0_2 l0_3 a1_0 a1_1 a1_2 l1_3) else (l6_HeadApart.j0 k t349 (decide ((l1_3.length : Int) > 20)) a0_0 a0_1 a0_2 l0_3 a1_0 a1_1 a1_2 l1_3)) else (l6_HeadApart.j0 k t349 true a0_0 a0_1 a0_2 l0_3 a1_0 a1_1 a1_2 l1_3)) = some r := H
 have A3 := Ax.mk A30
 clear A30
 have HC4 := Ax.mk H
 clear H
 go_enter Tryd.func7, Tryd.ntmps7
 go_upto_region 2 with (first | ((with_reducible refine gate_dst (N := 2) rfl ?_); (try (refine gate_guard (by rfl) ?_; dsimp only)); refine box_event ?hg (N := 2) ?hd (cs := #[.int .u64 a0_0, .int .i64 a0_1, .int .i64 a0_2, .slice A0_3 l0_3.length c0_3]) (t := 25) ?hr ?_; (case hd => rfl); (case hg => rfl); (case hr => first | (go_simp; done) | (go_simp; rfl)); intro gb347 hg w5 hbox hb; have n0_ := Ax.mk (bP bA hb); have n1_ := Ax.mk (hbox); have n2_ := Ax.mk ((ge_new hg : w.heap.size ≤ gb347)); have n3_ := n2_; clear HB; have HB := n0_; have BK347 := n1_; have GW347 := n2_; have GE347 := n3_; clear n0_ n1_ n2_ n3_; clear hb hbox hg) | ((with_reducible refine gate_dst (N := 3) rfl ?_); (try (refine gate_guard (by rfl) ?_; dsimp only)); refine box_event ?hg (N := 3) ?hd (cs := #[.int .u64 a1_0, .int .i64 a1_1, .int .i64 a1_2, .slice A1_3 l1_3.length c1_3]) (t := 25) ?hr ?_; (case hd => rfl); (case hg => rfl); (case hr => first | (go_simp; done) | (go_simp; rfl)); intro gb348 hg w6 hbox hb; have n0_ := Ax.mk (bB (bT BK347.out) hb); have n1_ := Ax.mk (bP bA hb); have n2_ := Ax.mk (hbox); have n3_ := Ax.mk ((ge_new hg : w.heap.size ≤ gb348)); have n4_ := n3_; have n5_ := Ax.mk ((ne_lt hg BK347.out : gb347 ≠ gb348)); have n6_ := Ax.mk ((ne_gt hg BK347.out : gb348 ≠ gb347)); clear BK347; clear HB; have BK347 := n0_; have HB := n1_; have BK348 := n2_; have GW348 := n3_; have GE348 := n4_; have NB347_348 := n5_; have NB348_347 := n6_; clear n0_ n1_ n2_ n3_ n4_ n5_ n6_; clear hb hbox hg) | ((with_reducible refine gate_callee (f := 9) rfl ?_); refine goesL_ (some 10) rfl rfl Tryd.func9 (by kernel_rfl) rfl #[] rfl (by (try simp only [List.map_toArray, List.map_cons, List.map_nil]); first | done | rfl | (simp only [List.length_drop, List.length_take]; rfl) | (rw [wrap_sum2 (by assumption)]; rfl)) ?_; (with_reducible refine (l6_shown.calls k  t349 _ A3.out).mono ?_); rintro e w7 ⟨rfl, hb⟩; refine ⟨_, rfl, ?_⟩; have n0_ := Ax.mk (bB (bT BK347.out) hb); have n1_ := Ax.mk (bB (bT BK348.out) hb); have n2_ := Ax.mk (bP bA hb); clear BK347; clear BK348; clear HB; have BK347 := n0_; have BK348 := n1_; have HB := n2_; clear n0_ n1_ n2_; (try clear hb); (try clear hb2); (try clear hk); (try clear hi)))
 (try simp only [Act.put, setIfInBounds_toArray, set_cons_zero, set_cons_succ])
 go_cut [24] (fun v24 wc => ∃ (kq : Nat) (x24_3 : Bool), v24 = .bool x24_3 ∧ Ax (l6_HeadApart.j0 kq t349 x24_3 a0_0 a0_1 a0_2 l0_3 a1_0 a1_1 a1_2 l1_3 = some r) ∧ Ax (kq ≤ k) ∧ Ax (wc.heap[gb347]? = some (.cells #[.int .u64 a0_0, .int .i64 a0_1, .int .i64 a0_2, (.slice A0_3 l0_3.length c0_3)] 25 (0, 0))) ∧ Ax (wc.heap[gb348]? = some (.cells #[.int .u64 a1_0, .int .i64 a1_1, .int .i64 a1_2, (.slice A1_3 l1_3.length c1_3)] 25 (0, 0))) ∧ Ax (Below w.heap.size w wc))
 case first =>
  have H := HC4.out
  clear HC4
  by_cases c8 : t349 = true
  ·subst c8
   have H1 : (if (l0_3.length : Int) > 20 then (l6_HeadApart.j0 k true true a0_0 a0_1 a0_2 l0_3 a1_0 a1_1 a1_2 l1_3) else (l6_HeadApart.j0 k true (decide ((l1_3.length : Int) > 20)) a0_0 a0_1 a0_2 l0_3 a1_0 a1_1 a1_2 l1_3)) = some r := by rw [if_pos rfl] at H; exact H
   clear H
   have H := H1
   clear H1
   by_cases c9 : (l0_3.length : Int) > 20
   ·rw [if_pos c9] at H
    have c9b0 : decide (20 < (l0_3.length : Int)) = true := decide_eq_true c9
    have c9b1 : decide (20 < l0_3.length) = true := decide_eq_true (by omega)
    clear c9
    (first | rw [c9b0] | (simp only [i64_w, i32_w]; rw [c9b0]) | skip)
    have H' := Ax.mk H
    clear H
    have hnb10 := NB347_348.out
    have hnc10 := NB348_347.out
    have hcz11_0 : w7.cell? ⟨gb347, 0, none⟩ = some (.int .u64 a0_0) := (bC BK347.out 0).trans rfl
    have hcz11_1 : w7.cell? ⟨gb347, 1, none⟩ = some (.int .i64 a0_1) := (bC BK347.out 1).trans rfl
    have hcz11_2 : w7.cell? ⟨gb347, 2, none⟩ = some (.int .i64 a0_2) := (bC BK347.out 2).trans rfl
    have hcz11_3 : w7.cell? ⟨gb347, 3, none⟩ = some (.slice A0_3 l0_3.length c0_3) := (bC BK347.out 3).trans rfl
    have hfz11_0 := bF BK347.out 0
    have hfz11_1 := bF BK347.out 1
    have hfz11_2 := bF BK347.out 2
    have hfz11_3 := bF BK347.out 3
    go_wp2
    go_meet
    case rel => exact ⟨_, (true), (by first | rfl | (simp; done) | (simp [*]; done)), H', ⟨by first | omega | exact Nat.le_refl _⟩, ⟨by refine bT ?_; exact BK347.out⟩, ⟨by refine bT ?_; exact BK348.out⟩, ⟨bA⟩⟩
   ·rw [if_neg c9] at H
    have c9b0 : decide (20 < (l0_3.length : Int)) = false := decide_eq_false c9
    have c9b1 : decide (20 < l0_3.length) = false := decide_eq_false (by omega)
    clear c9
    (first | rw [c9b0] | (simp only [i64_w, i32_w]; rw [c9b0]) | skip)
    have H' := Ax.mk H
    clear H
    have hnb12 := NB347_348.out
    have hnc12 := NB348_347.out
    have hcz13_0 : w7.cell? ⟨gb347, 0, none⟩ = some (.int .u64 a0_0) := (bC BK347.out 0).trans rfl
    have hcz13_1 : w7.cell? ⟨gb347, 1, none⟩ = some (.int .i64 a0_1) := (bC BK347.out 1).trans rfl
    have hcz13_2 : w7.cell? ⟨gb347, 2, none⟩ = some (.int .i64 a0_2) := (bC BK347.out 2).trans rfl
    have hcz13_3 : w7.cell? ⟨gb347, 3, none⟩ = some (.slice A0_3 l0_3.length c0_3) := (bC BK347.out 3).trans rfl
    have hfz13_0 := bF BK347.out 0
    have hfz13_1 := bF BK347.out 1
    have hfz13_2 := bF BK347.out 2
    have hfz13_3 := bF BK347.out 3
    have hcz14_0 : w7.cell? ⟨gb348, 0, none⟩ = some (.int .u64 a1_0) := (bC BK348.out 0).trans rfl
    have hcz14_1 : w7.cell? ⟨gb348, 1, none⟩ = some (.int .i64 a1_1) := (bC BK348.out 1).trans rfl
    have hcz14_2 : w7.cell? ⟨gb348, 2, none⟩ = some (.int .i64 a1_2) := (bC BK348.out 2).trans rfl
    have hcz14_3 : w7.cell? ⟨gb348, 3, none⟩ = some (.slice A1_3 l1_3.length c1_3) := (bC BK348.out 3).trans rfl
    have hfz14_0 := bF BK348.out 0
    have hfz14_1 := bF BK348.out 1
    have hfz14_2 := bF BK348.out 2
    have hfz14_3 := bF BK348.out 3
    go_wp2
    go_meet
    case rel => exact ⟨_, (decide ((l1_3.length : Int) > 20)), (by first | rfl | (simp; done) | (simp [*]; done)), H', ⟨by first | omega | exact Nat.le_refl _⟩, ⟨by refine bT ?_; exact BK347.out⟩, ⟨by refine bT ?_; exact BK348.out⟩, ⟨bA⟩⟩
  ·replace c8 := Bool.eq_false_iff.mpr c8
   subst c8
   have H1 : (l6_HeadApart.j0 k false true a0_0 a0_1 a0_2 l0_3 a1_0 a1_1 a1_2 l1_3) = some r := by rw [if_neg (show ¬ (false = true) by decide)] at H; exact H
   clear H
   have H := H1
   clear H1
   have H' := Ax.mk H
   clear H
   go_wp2
   go_meet
   case rel => exact ⟨_, (true), (by first | rfl | (simp; done) | (simp [*]; done)), H', ⟨by first | omega | exact Nat.le_refl _⟩, ⟨by refine bT ?_; exact BK347.out⟩, ⟨by refine bT ?_; exact BK348.out⟩, ⟨bA⟩⟩
 case rest =>
  clear HC4
  try clear c1
  try clear p2
  try clear c7
  try clear c8
  try clear c9
  try clear c9b0
  try clear c9b1
  try clear c10
  try clear c12
  try clear hcz11_0
  try clear hcz11_1
  try clear hcz11_2
  try clear hcz11_3
  try clear hcz13_0
  try clear hcz13_1
  try clear hcz13_2
  try clear hcz13_3
  try clear hcz14_0
  try clear hcz14_1
  try clear hcz14_2
  try clear hcz14_3
  try clear hfz11_0
  try clear hfz11_1
  try clear hfz11_2
  try clear hfz11_3
  try clear hfz13_0
  try clear hfz13_1
  try clear hfz13_2
  try clear hfz13_3
  try clear hfz14_0
  try clear hfz14_1
  try clear hfz14_2
  try clear hfz14_3
  obtain ⟨kq, x24_3, rfl, HA, HJ3, BK347, BK348, HB⟩ := hcut
  cases kq with
  | zero => exact absurd HA.out (by simp [l6_HeadApart.j0])
  | succ kj3 =>
   have H := HA.out
   clear HA
   simp only [l6_HeadApart.j0] at H
   by_cases c15 : x24_3 = true
   ·subst c15
    have H1 : (some t349) = some r := by rw [if_pos rfl] at H; exact H
    clear H
    have H := H1
    clear H1
    obtain rfl := Option.some.inj H
    go_wp2
    go_ret
    exact ⟨by first | rfl | (simp [errW_none, errW_some] <;> rfl) | (simp [*, errW_none, errW_some] <;> rfl), bA⟩
   ·replace c15 := Bool.eq_false_iff.mpr c15
    subst c15
    have H1 : ((head_Put.f kj3 a0_0 a0_1 a0_2 l0_3).bind fun bt350 => ((head_Put.f kj3 a1_0 a1_1 a1_2 l1_3).bind fun bt352 => (if bt350.2 = 0 then (l6_HeadApart.j1 kj3 bt350.1 bt350.2 bt352.1 bt352.2 (bt352.2 != 0) a0_0 a0_1 a0_2 l0_3 a1_0 a1_1 a1_2 l1_3) else (l6_HeadApart.j1 kj3 bt350.1 bt350.2 bt352.1 bt352.2 true a0_0 a0_1 a0_2 l0_3 a1_0 a1_1 a1_2 l1_3)))) = some r := by rw [if_neg (show ¬ (false = true) by decide)] at H; exact H
    clear H
    have H := H1
    clear H1
    replace H := Option.bind_eq_some_iff.mp H
    obtain ⟨⟨t350, t351⟩, A160, H⟩ := H
    replace H : ((head_Put.f kj3 a1_0 a1_1 a1_2 l1_3).bind fun bt352 => (if t351 = 0 then (l6_HeadApart.j1 kj3 t350 t351 bt352.1 bt352.2 (bt352.2 != 0) a0_0 a0_1 a0_2 l0_3 a1_0 a1_1 a1_2 l1_3) else (l6_HeadApart.j1 kj3 t350 t351 bt352.1 bt352.2 true a0_0 a0_1 a0_2 l0_3 a1_0 a1_1 a1_2 l1_3))) = some r := H
    have A16 := Ax.mk A160
    clear A160
    replace H := Option.bind_eq_some_iff.mp H
    obtain ⟨⟨t352, t353⟩, A170, H⟩ := H
    replace H : (if t351 = 0 then (l6_HeadApart.j1 kj3 t350 t351 t352 t353 (t353 != 0) a0_0 a0_1 a0_2 l0_3 a1_0 a1_1 a1_2 l1_3) else (l6_HeadApart.j1 kj3 t350 t351 t352 t353 true a0_0 a0_1 a0_2 l0_3 a1_0 a1_1 a1_2 l1_3)) = some r := H
    have A17 := Ax.mk A170
    clear A170
    have HC18 := Ax.mk H
    clear H
    have hnb19 := NB347_348.out
    have hnc19 := NB348_347.out
    have hcz20_0 : wc.cell? ⟨gb347, 0, none⟩ = some (.int .u64 a0_0) := (bC BK347.out 0).trans rfl
    have hcz20_1 : wc.cell? ⟨gb347, 1, none⟩ = some (.int .i64 a0_1) := (bC BK347.out 1).trans rfl
    have hcz20_2 : wc.cell? ⟨gb347, 2, none⟩ = some (.int .i64 a0_2) := (bC BK347.out 2).trans rfl
    have hcz20_3 : wc.cell? ⟨gb347, 3, none⟩ = some (.slice A0_3 l0_3.length c0_3) := (bC BK347.out 3).trans rfl
    have hfz20_0 := bF BK347.out 0
    have hfz20_1 := bF BK347.out 1
    have hfz20_2 := bF BK347.out 2
    have hfz20_3 := bF BK347.out 3
    go_upto_region 6 with (first | ((with_reducible refine gate_callee (f := 10) rfl ?_); refine goesL_ (some 28) rfl rfl Tryd.func10 (by kernel_rfl) rfl #[.agg #[.int .u64 a0_0, .int .i64 a0_1, .int .i64 a0_2, .slice A0_3 l0_3.length c0_3]] rfl (by (try simp only [List.map_toArray, List.map_cons, List.map_nil]); first | done | rfl | (simp only [List.length_drop, List.length_take]; rfl) | (rw [wrap_sum2 (by assumption)]; rfl)) ?_; (with_reducible refine (head_Put.calls kj3 a0_0 a0_1 a0_2 _ _ l0_3 t350 t351 _ ?side1 ?side2 A16.out).mono ?_); (case side1 => repeat (first | exact (Kd.C_below HR0_3.out HB.out) | (with_reducible refine Kd.C_alloc ?_ _) | (with_reducible refine Kd.C_drewN ?_ _) | (with_reducible refine Kd.C_drew ?_))); (case side2 => exact HC0_3.out); rintro e w21 ⟨rfl, hb⟩; refine ⟨_, rfl, ?_⟩; have n0_ := Ax.mk (bB (bT BK347.out) hb); have n1_ := Ax.mk (bB (bT BK348.out) hb); have n2_ := Ax.mk (bP bA hb); clear BK347; clear BK348; clear HB; have BK347 := n0_; have BK348 := n1_; have HB := n2_; clear n0_ n1_ n2_; (try clear hb); (try clear hb2); (try clear hk); (try clear hi); have hcz22_0 : w21.cell? ⟨gb348, 0, none⟩ = some (.int .u64 a1_0) := (bC BK348.out 0).trans rfl; have hcz22_1 : w21.cell? ⟨gb348, 1, none⟩ = some (.int .i64 a1_1) := (bC BK348.out 1).trans rfl; have hcz22_2 : w21.cell? ⟨gb348, 2, none⟩ = some (.int .i64 a1_2) := (bC BK348.out 2).trans rfl; have hcz22_3 : w21.cell? ⟨gb348, 3, none⟩ = some (.slice A1_3 l1_3.length c1_3) := (bC BK348.out 3).trans rfl; have hfz22_0 := bF BK348.out 0; have hfz22_1 := bF BK348.out 1; have hfz22_2 := bF BK348.out 2; have hfz22_3 := bF BK348.out 3) | ((with_reducible refine gate_callee (f := 10) rfl ?_); refine goesL_ (some 33) rfl rfl Tryd.func10 (by kernel_rfl) rfl #[.agg #[.int .u64 a1_0, .int .i64 a1_1, .int .i64 a1_2, .slice A1_3 l1_3.length c1_3]] rfl (by (try simp only [List.map_toArray, List.map_cons, List.map_nil]); first | done | rfl | (simp only [List.length_drop, List.length_take]; rfl) | (rw [wrap_sum2 (by assumption)]; rfl)) ?_; (with_reducible refine (head_Put.calls kj3 a1_0 a1_1 a1_2 _ _ l1_3 t352 t353 _ ?side1 ?side2 A17.out).mono ?_); (case side1 => repeat (first | exact (Kd.C_below HR1_3.out HB.out) | (with_reducible refine Kd.C_alloc ?_ _) | (with_reducible refine Kd.C_drewN ?_ _) | (with_reducible refine Kd.C_drew ?_))); (case side2 => exact HC1_3.out); rintro e w23 ⟨rfl, hb⟩; refine ⟨_, rfl, ?_⟩; have n0_ := Ax.mk (bB (bT BK347.out) hb); have n1_ := Ax.mk (bB (bT BK348.out) hb); have n2_ := Ax.mk (bP bA hb); clear BK347; clear BK348; clear HB; have BK347 := n0_; have BK348 := n1_; have HB := n2_; clear n0_ n1_ n2_; (try clear hb); (try clear hb2); (try clear hk); (try clear hi)))
    (try simp only [Act.put, setIfInBounds_toArray, set_cons_zero, set_cons_succ])
    go_cut [41] (fun v41 wc => ∃ (kq : Nat) (x41_17 : Bool), v41 = .bool x41_17 ∧ Ax (l6_HeadApart.j1 kq t350 t351 t352 t353 x41_17 a0_0 a0_1 a0_2 l0_3 a1_0 a1_1 a1_2 l1_3 = some r) ∧ Ax (kq ≤ kj3) ∧ Ax (wc.heap[gb347]? = some (.cells #[.int .u64 a0_0, .int .i64 a0_1, .int .i64 a0_2, (.slice A0_3 l0_3.length c0_3)] 25 (0, 0))) ∧ Ax (wc.heap[gb348]? = some (.cells #[.int .u64 a1_0, .int .i64 a1_1, .int .i64 a1_2, (.slice A1_3 l1_3.length c1_3)] 25 (0, 0))) ∧ Ax (Below w.heap.size w wc))
    case first =>
     have H := HC18.out
     clear HC18
     by_cases c24 : t351 = 0
     ·rw [if_pos c24] at H
      have c24b0 : (t351 == 0) = true := beq_iff_eq.mpr c24
      have c24b1 : (t351 != 0) = false := bne_eq_false_iff_eq.mpr c24
      clear c24
      (first | rw [c24b0] | (simp only [i64_w, i32_w]; rw [c24b0]) | skip)
      have H' := Ax.mk H
      clear H
      go_wp2
      go_meet
      case rel => exact ⟨_, ((t353 != 0)), (by first | rfl | (simp; done) | (simp [*]; done)), H', ⟨by have := HJ3.out; first | omega | exact Nat.le_refl _⟩, ⟨by refine bT ?_; exact BK347.out⟩, ⟨by refine bT ?_; exact BK348.out⟩, ⟨bA⟩⟩
     ·rw [if_neg c24] at H
      have c24b0 : (t351 == 0) = false := beq_eq_false_iff_ne.mpr c24
      have c24b1 : (t351 != 0) = true := bne_iff_ne.mpr c24
      (first | rw [c24b0] | (simp only [i64_w, i32_w]; rw [c24b0]) | skip)
      have H' := Ax.mk H
      clear H
      go_wp2
      go_meet
      case rel => exact ⟨_, (true), (by first | rfl | (simp; done) | (simp [*]; done)), H', ⟨by have := HJ3.out; first | omega | exact Nat.le_refl _⟩, ⟨by refine bT ?_; exact BK347.out⟩, ⟨by refine bT ?_; exact BK348.out⟩, ⟨bA⟩⟩
    case rest =>
     clear HC18
     try clear c1
     try clear c2
     try clear p2
     try clear c7
     try clear c8
     try clear c9
     try clear c9b0
     try clear c9b1
     try clear c10
     try clear c12
     try clear c15
     try clear c19
     try clear c24
     try clear c24b0
     try clear c24b1
     try clear hcz11_0
     try clear hcz11_1
     try clear hcz11_2
     try clear hcz11_3
     try clear hcz13_0
     try clear hcz13_1
     try clear hcz13_2
     try clear hcz13_3
     try clear hcz14_0
     try clear hcz14_1
     try clear hcz14_2
     try clear hcz14_3
     try clear hcz20_0
     try clear hcz20_1
     try clear hcz20_2
     try clear hcz20_3
     try clear hcz22_0
     try clear hcz22_1
     try clear hcz22_2
     try clear hcz22_3
     try clear hfz11_0
     try clear hfz11_1
     try clear hfz11_2
     try clear hfz11_3
     try clear hfz13_0
     try clear hfz13_1
     try clear hfz13_2
     try clear hfz13_3
     try clear hfz14_0
     try clear hfz14_1
     try clear hfz14_2
     try clear hfz14_3
     try clear hfz20_0
     try clear hfz20_1
     try clear hfz20_2
     try clear hfz20_3
     try clear hfz22_0
     try clear hfz22_1
     try clear hfz22_2
     try clear hfz22_3
     try clear p2
     obtain ⟨kq, x41_17, rfl, HA, HJ17, BK347, BK348, HB⟩ := hcut
     cases kq with
     | zero => exact absurd HA.out (by simp [l6_HeadApart.j1])
     | succ kj17 =>
      have H := HA.out
      clear HA
      simp only [l6_HeadApart.j1] at H
      by_cases c25 : x41_17 = true
      ·subst c25
       have H1 : ((head_Right.f kj17 a0_0 a0_1 a0_2 l0_3).bind fun t354 => (if ((t351 == 0) == t354) = true then ((head_Right.f kj17 a1_0 a1_1 a1_2 l1_3).bind fun t355 => (some ((t353 == 0) == t355))) else (some false))) = some r := by rw [if_pos rfl] at H; exact H
       clear H
       have H := H1
       clear H1
       replace H := Option.bind_eq_some_iff.mp H
       obtain ⟨t354, A260, H⟩ := H
       replace H : (if ((t351 == 0) == t354) = true then ((head_Right.f kj17 a1_0 a1_1 a1_2 l1_3).bind fun t355 => (some ((t353 == 0) == t355))) else (some false)) = some r := H
       have A26 := Ax.mk A260
       clear A260
       by_cases c27 : ((t351 == 0) == t354) = true
       ·rw [if_pos c27] at H
        have c27b0 : ((t351 == 0) == t354) = true := c27
        (try (have c27b1 : decide ((t351 == 0) = t354) = true := by simpa using c27))
        (try (have c27b2 : ((t351 == 0) == t354) = true := by simpa using c27))
        clear c27
        replace H := Option.bind_eq_some_iff.mp H
        obtain ⟨t355, A280, H⟩ := H
        replace H : (some ((t353 == 0) == t355)) = some r := H
        have A28 := Ax.mk A280
        clear A280
        obtain rfl := Option.some.inj H
        have hnb29 := NB347_348.out
        have hnc29 := NB348_347.out
        have hcz30_0 : wc.cell? ⟨gb347, 0, none⟩ = some (.int .u64 a0_0) := (bC BK347.out 0).trans rfl
        have hcz30_1 : wc.cell? ⟨gb347, 1, none⟩ = some (.int .i64 a0_1) := (bC BK347.out 1).trans rfl
        have hcz30_2 : wc.cell? ⟨gb347, 2, none⟩ = some (.int .i64 a0_2) := (bC BK347.out 2).trans rfl
        have hcz30_3 : wc.cell? ⟨gb347, 3, none⟩ = some (.slice A0_3 l0_3.length c0_3) := (bC BK347.out 3).trans rfl
        have hfz30_0 := bF BK347.out 0
        have hfz30_1 := bF BK347.out 1
        have hfz30_2 := bF BK347.out 2
        have hfz30_3 := bF BK347.out 3
        go_wp2_with (first | ((with_reducible refine gate_callee (f := 13) rfl ?_); refine goesL_ (some 45) rfl rfl Tryd.func13 (by kernel_rfl) rfl #[.agg #[.int .u64 a0_0, .int .i64 a0_1, .int .i64 a0_2, .slice A0_3 l0_3.length c0_3]] rfl (by (try simp only [List.map_toArray, List.map_cons, List.map_nil]); first | done | rfl | (simp only [List.length_drop, List.length_take]; rfl) | (rw [wrap_sum2 (by assumption)]; rfl)) ?_; (with_reducible refine (head_Right.calls kj17 a0_0 a0_1 a0_2 _ _ l0_3 t354 _ ?side1 ?side2 A26.out).mono ?_); (case side1 => repeat (first | exact (Kd.C_below HR0_3.out HB.out) | (with_reducible refine Kd.C_alloc ?_ _) | (with_reducible refine Kd.C_drewN ?_ _) | (with_reducible refine Kd.C_drew ?_))); (case side2 => exact HC0_3.out); rintro e w31 ⟨rfl, hb⟩; refine ⟨_, rfl, ?_⟩; have n0_ := Ax.mk (bB (bT BK347.out) hb); have n1_ := Ax.mk (bB (bT BK348.out) hb); have n2_ := Ax.mk (bP bA hb); clear BK347; clear BK348; clear HB; have BK347 := n0_; have BK348 := n1_; have HB := n2_; clear n0_ n1_ n2_; (try clear hb); (try clear hb2); (try clear hk); (try clear hi); have hcz32_0 : w31.cell? ⟨gb348, 0, none⟩ = some (.int .u64 a1_0) := (bC BK348.out 0).trans rfl; have hcz32_1 : w31.cell? ⟨gb348, 1, none⟩ = some (.int .i64 a1_1) := (bC BK348.out 1).trans rfl; have hcz32_2 : w31.cell? ⟨gb348, 2, none⟩ = some (.int .i64 a1_2) := (bC BK348.out 2).trans rfl; have hcz32_3 : w31.cell? ⟨gb348, 3, none⟩ = some (.slice A1_3 l1_3.length c1_3) := (bC BK348.out 3).trans rfl; have hfz32_0 := bF BK348.out 0; have hfz32_1 := bF BK348.out 1; have hfz32_2 := bF BK348.out 2; have hfz32_3 := bF BK348.out 3) | (go_at_call 13; (with_reducible refine (head_Right.calls kj17 a1_0 a1_1 a1_2 _ _ l1_3 t355 _ ?side1 ?side2 A28.out).mono ?_); (case side1 => repeat (first | exact (Kd.C_below HR1_3.out HB.out) | (with_reducible refine Kd.C_alloc ?_ _) | (with_reducible refine Kd.C_drewN ?_ _) | (with_reducible refine Kd.C_drew ?_))); (case side2 => exact HC1_3.out); rintro e w33 ⟨rfl, hb⟩; have n0_ := Ax.mk (bB (bT BK347.out) hb); have n1_ := Ax.mk (bB (bT BK348.out) hb); have n2_ := Ax.mk (bP bA hb); clear BK347; clear BK348; clear HB; have BK347 := n0_; have BK348 := n1_; have HB := n2_; clear n0_ n1_ n2_; (try clear hb); (try clear hb2); (try clear hk); (try clear hi)))
        go_ret
        exact ⟨by first | rfl | (simp [errW_none, errW_some] <;> rfl) | (simp [*, errW_none, errW_some] <;> rfl), bA⟩
       ·rw [if_neg c27] at H
        have c27b0 : ((t351 == 0) == t354) = false := by simpa using c27
        (try (have c27b1 : decide ((t351 == 0) = t354) = false := by simpa using c27))
        (try (have c27b2 : ((t351 == 0) == t354) = false := by simpa using c27))
        (try (have c27b3 : ¬ ((t351 == 0) = t354) := by simpa using c27))
        clear c27
        obtain rfl := Option.some.inj H
        have hnb34 := NB347_348.out
        have hnc34 := NB348_347.out
        have hcz35_0 : wc.cell? ⟨gb347, 0, none⟩ = some (.int .u64 a0_0) := (bC BK347.out 0).trans rfl
        have hcz35_1 : wc.cell? ⟨gb347, 1, none⟩ = some (.int .i64 a0_1) := (bC BK347.out 1).trans rfl
        have hcz35_2 : wc.cell? ⟨gb347, 2, none⟩ = some (.int .i64 a0_2) := (bC BK347.out 2).trans rfl
        have hcz35_3 : wc.cell? ⟨gb347, 3, none⟩ = some (.slice A0_3 l0_3.length c0_3) := (bC BK347.out 3).trans rfl
        have hfz35_0 := bF BK347.out 0
        have hfz35_1 := bF BK347.out 1
        have hfz35_2 := bF BK347.out 2
        have hfz35_3 := bF BK347.out 3
        go_wp2_with (first | ((with_reducible refine gate_callee (f := 13) rfl ?_); refine goesL_ (some 45) rfl rfl Tryd.func13 (by kernel_rfl) rfl #[.agg #[.int .u64 a0_0, .int .i64 a0_1, .int .i64 a0_2, .slice A0_3 l0_3.length c0_3]] rfl (by (try simp only [List.map_toArray, List.map_cons, List.map_nil]); first | done | rfl | (simp only [List.length_drop, List.length_take]; rfl) | (rw [wrap_sum2 (by assumption)]; rfl)) ?_; (with_reducible refine (head_Right.calls kj17 a0_0 a0_1 a0_2 _ _ l0_3 t354 _ ?side1 ?side2 A26.out).mono ?_); (case side1 => repeat (first | exact (Kd.C_below HR0_3.out HB.out) | (with_reducible refine Kd.C_alloc ?_ _) | (with_reducible refine Kd.C_drewN ?_ _) | (with_reducible refine Kd.C_drew ?_))); (case side2 => exact HC0_3.out); rintro e w36 ⟨rfl, hb⟩; refine ⟨_, rfl, ?_⟩; have n0_ := Ax.mk (bB (bT BK347.out) hb); have n1_ := Ax.mk (bB (bT BK348.out) hb); have n2_ := Ax.mk (bP bA hb); clear BK347; clear BK348; clear HB; have BK347 := n0_; have BK348 := n1_; have HB := n2_; clear n0_ n1_ n2_; (try clear hb); (try clear hb2); (try clear hk); (try clear hi)))
        go_ret
        exact ⟨by first | rfl | (simp [errW_none, errW_some] <;> rfl) | (simp [*, errW_none, errW_some] <;> rfl), bA⟩
      ·replace c25 := Bool.eq_false_iff.mpr c25
       subst c25
       have H1 : ((l6_as.f a1_0 a1_1 a1_2 l1_3).bind fun bt356 => ((l6_same.f kj17 a0_0 a0_1 a0_2 l0_3 bt356.1 bt356.2.1 bt356.2.2.1 bt356.2.2.2).bind fun t362 => (if ((t350.toList == t352.toList) == t362) = true then (if 0 ≤ 4 then (if 4 ≤ (t350.size : Int) then (if (t350.extract 0 4).toList = ([114, 116, 99, 108] : List UInt8) then (if 4 ≤ (t352.size : Int) then (some ((t352.extract 0 4).toList == ([114, 116, 99, 108] : List UInt8))) else (none)) else (some false)) else (none)) else (none)) else (some false)))) = some r := by rw [if_neg (show ¬ (false = true) by decide)] at H; exact H
       clear H
       have H := H1
       clear H1
       replace H := Option.bind_eq_some_iff.mp H
       obtain ⟨⟨t356, t357, t358, t359⟩, A370, H⟩ := H
       replace H : ((l6_same.f kj17 a0_0 a0_1 a0_2 l0_3 t356 t357 t358 t359).bind fun t362 => (if ((t350.toList == t352.toList) == t362) = true then (if 0 ≤ 4 then (if 4 ≤ (t350.size : Int) then (if (t350.extract 0 4).toList = ([114, 116, 99, 108] : List UInt8) then (if 4 ≤ (t352.size : Int) then (some ((t352.extract 0 4).toList == ([114, 116, 99, 108] : List UInt8))) else (none)) else (some false)) else (none)) else (none)) else (some false))) = some r := H
       have A37 := Ax.mk A370
       clear A370
       replace H := Option.bind_eq_some_iff.mp H
       obtain ⟨t362, A380, H⟩ := H
       replace H : (if ((t350.toList == t352.toList) == t362) = true then (if 0 ≤ 4 then (if 4 ≤ (t350.size : Int) then (if (t350.extract 0 4).toList = ([114, 116, 99, 108] : List UInt8) then (if 4 ≤ (t352.size : Int) then (some ((t352.extract 0 4).toList == ([114, 116, 99, 108] : List UInt8))) else (none)) else (some false)) else (none)) else (none)) else (some false)) = some r := H
       have A38 := Ax.mk A380
       clear A380
       by_cases c39 : ((t350.toList == t352.toList) == t362) = true
       ·rw [if_pos c39] at H
        have c39b0 : ((t350.toList == t352.toList) == t362) = true := c39
        (try (have c39b1 : decide ((t350.toList == t352.toList) = t362) = true := by simpa using c39))
        (try (have c39b2 : ((t350.toList == t352.toList) == t362) = true := by simpa using c39))
        clear c39
        by_cases c40 : 0 ≤ 4
        ·rw [if_pos c40] at H
         have c40b0 := eq_true c40
         have c40b1 : decide (0 ≤ 4) = true := decide_eq_true c40
         clear c40
         by_cases c41 : 4 ≤ (t350.size : Int)
         ·rw [if_pos c41] at H
          have c41b0 := eq_true c41
          have c41b1 : decide (4 ≤ (t350.size : Int)) = true := decide_eq_true c41
          clear c41
          by_cases c42 : (t350.extract 0 4).toList = ([114, 116, 99, 108] : List UInt8)
          ·rw [if_pos c42] at H
           have c42b0 : ((t350.extract 0 4).toList == ([114, 116, 99, 108] : List UInt8)) = true := beq_iff_eq.mpr c42
           have c42b1 : ((t350.extract 0 4).toList != ([114, 116, 99, 108] : List UInt8)) = false := bne_eq_false_iff_eq.mpr c42
           clear c42
           have c43b0 := eq_true (of_decide_eq_true (by first | (with_reducible assumption) | assumption) : 0 ≤ 4)
           by_cases c44 : 4 ≤ (t352.size : Int)
           ·rw [if_pos c44] at H
            have c44b0 := eq_true c44
            have c44b1 : decide (4 ≤ (t352.size : Int)) = true := decide_eq_true c44
            clear c44
            obtain rfl := Option.some.inj H
            try go_wp2
            have n0_ := Ax.mk (blk_drew BK347.out)
            have n1_ := Ax.mk (blk_drew BK348.out)
            have n2_ := Ax.mk (below_drew1 HB.out)
            clear BK347
            clear BK348
            clear HB
            have BK347 := n0_
            have BK348 := n1_
            have HB := n2_
            clear n0_ n1_ n2_
            refine start_ (n := 19) (S := fun w' => w'.cell? ⟨gb347, 0, none⟩ = some (.int .u64 a0_0) ∧ w'.cell? ⟨gb347, 1, none⟩ = some (.int .i64 a0_1) ∧ w'.cell? ⟨gb347, 2, none⟩ = some (.int .i64 a0_2) ∧ w'.cell? ⟨gb347, 3, none⟩ = some (.slice A0_3 l0_3.length c0_3) ∧ w'.cell? ⟨gb348, 0, none⟩ = some (.int .u64 a1_0) ∧ w'.cell? ⟨gb348, 1, none⟩ = some (.int .i64 a1_1) ∧ w'.cell? ⟨gb348, 2, none⟩ = some (.int .i64 a1_2) ∧ w'.cell? ⟨gb348, 3, none⟩ = some (.slice A1_3 l1_3.length c1_3)) (ds := []) #[false, false, false, false, false, false, false, false, false, false, false, false, false, false, false, false, false, false, false] (by kernel_rfl) rfl rfl ⟨(bC BK347.out 0).trans rfl, (bC BK347.out 1).trans rfl, (bC BK347.out 2).trans rfl, (bC BK347.out 3).trans rfl, (bC BK348.out 0).trans rfl, (bC BK348.out 1).trans rfl, (bC BK348.out 2).trans rfl, (bC BK348.out 3).trans rfl⟩ (fun hHeld => ?_); refine with_tabW l6_HeadApart.tab8 l6_HeadApart.bits8 (fun HT_ HW_ => ?_)
            generalize wc.drew = w45 at BK347 BK348 HB hHeld ⊢
            refine pure_ (i := 0) (N := some 54) (v := ?_) (a' := ?_) #[true, false, false, false, false, false, false, false, false, false, false, false, false, false, false, false, false, false, false] rfl rfl (any_of HT_.out (by kernel_rfl)) (fun _ _ _ h => h) (Or.inl ⟨by rfl, ?_⟩) ?_ ?_
            rotate_left
            ·intro w'
             go_simp
             with_reducible rfl
            rotate_left
            ·simp only [Act.put, setIfInBounds_toArray, set_cons_zero, set_cons_succ, i64_w, i32_w]
             rfl
            refine pure_ (i := 1) (N := some 55) (v := ?_) (a' := ?_) #[true, true, false, false, false, false, false, false, false, false, false, false, false, false, false, false, false, false, false] rfl rfl (any_of HT_.out (by kernel_rfl)) (fun _ _ _ h => h) (Or.inl ⟨by rfl, ?_⟩) ?_ ?_
            rotate_left
            ·intro w'
             go_simp
             with_reducible rfl
            rotate_left
            ·simp only [Act.put, setIfInBounds_toArray, set_cons_zero, set_cons_succ, i64_w, i32_w]
             rfl
            refine pure_ (i := 2) (N := some 56) (v := ?_) (a' := ?_) #[true, true, true, false, false, false, false, false, false, false, false, false, false, false, false, false, false, false, false] rfl rfl (any_of HT_.out (by kernel_rfl)) (fun _ _ _ h => h) (Or.inl ⟨by rfl, ?_⟩) ?_ ?_
            rotate_left
            ·intro w'
             go_simp
             with_reducible rfl
            rotate_left
            ·simp only [Act.put, setIfInBounds_toArray, set_cons_zero, set_cons_succ, i64_w, i32_w]
             rfl
            refine take_ (i := 3) (N := some 57) (v := ?_) (a' := ?_) #[true, true, true, true, false, false, false, false, false, false, false, false, false, false, false, false, false, false, false] rfl rfl (take_ofW HT_.out HW_.out (by kernel_rfl)) (fun _ _ _ h => h) (Or.inl ⟨by rfl, ?_⟩) hHeld ?_ ?_
            rotate_left
            ·rintro w' ⟨s0, s1, s2, s3, s4, s5, s6, s7⟩
             go_simp
             with_reducible rfl
            rotate_left
            ·simp only [Act.put, setIfInBounds_toArray, set_cons_zero, set_cons_succ, i64_w, i32_w]
             rfl
            refine take_ (i := 4) (N := some 58) (v := ?_) (a' := ?_) #[true, true, true, true, true, false, false, false, false, false, false, false, false, false, false, false, false, false, false] rfl rfl (take_ofW HT_.out HW_.out (by kernel_rfl)) (fun _ _ _ h => h) (Or.inl ⟨by rfl, ?_⟩) hHeld ?_ ?_
            rotate_left
            ·rintro w' ⟨s0, s1, s2, s3, s4, s5, s6, s7⟩
             go_simp
             with_reducible rfl
            rotate_left
            ·simp only [Act.put, setIfInBounds_toArray, set_cons_zero, set_cons_succ, i64_w, i32_w]
             rfl
            refine one_ (i := 5) (N := some 59) #[true, true, true, true, true, true, false, false, false, false, false, false, false, false, false, false, false, false, false] rfl rfl (one_of HT_.out (by kernel_rfl)) (by decide) (fun K hK => ?_)
            refine goes_ Tryd.func12 (by kernel_rfl) rfl #[.agg #[.int .u64 a1_0, .int .i64 a1_1, .int .i64 a1_2, .slice A1_3 l1_3.length c1_3]] (by rfl) rfl rfl (by (try simp only [List.map_toArray, List.map_cons, List.map_nil]); first | done | rfl | (simp only [List.length_drop, List.length_take]; rfl) | (rw [wrap_sum2 (by assumption)]; rfl)) ?_
            with_reducible refine (l6_as.calls a1_0 a1_1 a1_2 (fun k_ => k_ < w.heap.size) _ _ l1_3 t356 t357 t358 t359 _ ?side1 A37.out).mono ?_
            (case side1 => exact Kd.V_mk HC1_3.out (Kd.F_below (Kd.C_F k53_heap HR1_3.out) bA))
            rintro e w46 ⟨v360, rfl, ho0, hb⟩
            refine ⟨_, rfl, ?_⟩
            have n0_ := Ax.mk (Kd.V_lower (Kd.V_mono (ok' := fun k_ => k_ ≠ gb347 ∧ k_ ≠ gb348) ho0 (fun k_ hk_ => ⟨Or.elim hk_ (fun hs_ => fun e_ => Nat.not_le.2 hs_ (by rw [e_]; exact GW347.out)) (fun hn_ => (Kd.freshB (g := gb347) (o := .cells #[.int .u64 a0_0, .int .i64 a0_1, .int .i64 a0_2, .slice A0_3 l0_3.length c0_3] 25 (0, 0)) (bT BK347.out) k_ hn_)), Or.elim hk_ (fun hs_ => fun e_ => Nat.not_le.2 hs_ (by rw [e_]; exact GW348.out)) (fun hn_ => (Kd.freshB (g := gb348) (o := .cells #[.int .u64 a1_0, .int .i64 a1_1, .int .i64 a1_2, .slice A1_3 l1_3.length c1_3] 25 (0, 0)) (bT BK348.out) k_ hn_))⟩)) (bS bA))
            have n1_ := Ax.mk (bB (bT BK347.out) hb)
            have n2_ := Ax.mk (bB (bT BK348.out) hb)
            have n3_ := Ax.mk (bP bA hb)
            clear BK347
            clear BK348
            clear HB
            have HO361 := n0_
            have BK347 := n1_
            have BK348 := n2_
            have HB := n3_
            clear n0_ n1_ n2_ n3_
            (try clear hb)
            (try clear hb2)
            (try clear hk)
            (try clear hi)
            (try clear ho0)
            obtain ⟨Ao47, co47, eo47⟩ := Kd.V_slice HO361.out
            (first | subst eo47 | (injection eo47 with f1_ f2_ f3_; have f4_ := f1_.symm; have f5_ := f3_.symm; clear f1_ f2_ f3_; subst f4_; subst f5_))
            refine hK.out _ _ ⟨(bC BK347.out 0).trans rfl, (bC BK347.out 1).trans rfl, (bC BK347.out 2).trans rfl, (bC BK347.out 3).trans rfl, (bC BK348.out 0).trans rfl, (bC BK348.out 1).trans rfl, (bC BK348.out 2).trans rfl, (bC BK348.out 3).trans rfl⟩ (fun hHeld => ?_)
            clear hK K
            refine norm_ (a' := ?_) ?_ ?_
            rotate_left
            ·show Act.put _ (some 59) _ = _
             simp only [Act.put, setIfInBounds_toArray, set_cons_zero, set_cons_succ, i64_w, i32_w]
             rfl
            refine one_ (i := 6) (N := some 60) #[true, true, true, true, true, true, true, false, false, false, false, false, false, false, false, false, false, false, false] rfl rfl (one_of HT_.out (by kernel_rfl)) (by decide) (fun K hK => ?_)
            refine goes_ Tryd.func20 (by kernel_rfl) rfl #[.agg #[.int .u64 a0_0, .int .i64 a0_1, .int .i64 a0_2, .slice A0_3 l0_3.length c0_3], .agg #[.int .u64 t356, .int .i64 t357, .int .i64 t358, .slice Ao47 t359.length co47]] (by rfl) rfl rfl (by (try simp only [List.map_toArray, List.map_cons, List.map_nil]); first | done | rfl | (simp only [List.length_drop, List.length_take]; rfl) | (rw [wrap_sum2 (by assumption)]; rfl)) ?_
            with_reducible refine (l6_same.calls kj17 a0_0 a0_1 a0_2 _ _ l0_3 t356 t357 t358 _ _ t359 t362 _ ?side1 ?side2 ?side3 ?side4 A38.out).mono ?_
            (case side1 => repeat (first | exact (Kd.C_below HR0_3.out HB.out) | (with_reducible refine Kd.C_alloc ?_ _) | (with_reducible refine Kd.C_drewN ?_ _) | (with_reducible refine Kd.C_drew ?_)))
            (case side2 => exact HC0_3.out)
            (case side3 => repeat (first | exact (Kd.V_reads' HO361.out).2.2 | (with_reducible refine Kd.C_alloc ?_ _) | (with_reducible refine Kd.C_drewN ?_ _) | (with_reducible refine Kd.C_drew ?_)))
            (case side4 => exact (Kd.V_reads' HO361.out).2.1)
            rintro e w48 ⟨rfl, hb⟩
            refine ⟨_, rfl, ?_⟩
            have n0_ := Ax.mk (Kd.V_below (by exact Kd.V_to HO361.out) hb)
            have n1_ := Ax.mk (bB (bT BK347.out) hb)
            have n2_ := Ax.mk (bB (bT BK348.out) hb)
            have n3_ := Ax.mk (bP bA hb)
            clear HO361
            clear BK347
            clear BK348
            clear HB
            have HO361 := n0_
            have BK347 := n1_
            have BK348 := n2_
            have HB := n3_
            clear n0_ n1_ n2_ n3_
            (try clear hb)
            (try clear hb2)
            (try clear hk)
            (try clear hi)
            refine hK.out _ _ ⟨(bC BK347.out 0).trans rfl, (bC BK347.out 1).trans rfl, (bC BK347.out 2).trans rfl, (bC BK347.out 3).trans rfl, (bC BK348.out 0).trans rfl, (bC BK348.out 1).trans rfl, (bC BK348.out 2).trans rfl, (bC BK348.out 3).trans rfl⟩ (fun hHeld => ?_)
            clear hK K
            refine norm_ (a' := ?_) ?_ ?_
            rotate_left
            ·show Act.put _ (some 60) _ = _
             simp only [Act.put, setIfInBounds_toArray, set_cons_zero, set_cons_succ, i64_w, i32_w]
             rfl
            refine pure_ (i := 7) (N := some 61) (v := ?_) (a' := ?_) #[true, true, true, true, true, true, true, true, false, false, false, false, false, false, false, false, false, false, false] rfl rfl (any_of HT_.out (by kernel_rfl)) (fun _ _ _ h => h) (Or.inl ⟨by rfl, ?_⟩) ?_ ?_
            rotate_left
            ·intro w'
             go_simp
             with_reducible rfl
            rotate_left
            ·simp only [Act.put, setIfInBounds_toArray, set_cons_zero, set_cons_succ, i64_w, i32_w]
             rfl
            refine pure_ (i := 8) (N := some 62) (v := ?_) (a' := ?_) #[true, true, true, true, true, true, true, true, true, false, false, false, false, false, false, false, false, false, false] rfl rfl (any_of HT_.out (by kernel_rfl)) (fun _ _ _ h => h) (Or.inl ⟨by rfl, ?_⟩) ?_ ?_
            rotate_left
            ·intro w'
             go_simp
             with_reducible rfl
            rotate_left
            ·simp only [Act.put, setIfInBounds_toArray, set_cons_zero, set_cons_succ, i64_w, i32_w]
             rfl
            refine pure_ (i := 9) (N := some 63) (v := ?_) (a' := ?_) #[true, true, true, true, true, true, true, true, true, true, false, false, false, false, false, false, false, false, false] rfl rfl (any_of HT_.out (by kernel_rfl)) (fun _ _ _ h => h) (Or.inl ⟨by rfl, ?_⟩) ?_ ?_
            rotate_left
            ·intro w'
             go_simp
             with_reducible rfl
            rotate_left
            ·simp only [Act.put, setIfInBounds_toArray, set_cons_zero, set_cons_succ, i64_w, i32_w]
             rfl
            refine pure_ (i := 10) (N := some 64) (v := ?_) (a' := ?_) #[true, true, true, true, true, true, true, true, true, true, true, false, false, false, false, false, false, false, false] rfl rfl (any_of HT_.out (by kernel_rfl)) (fun _ _ _ h => h) (Or.inl ⟨by rfl, ?_⟩) ?_ ?_
            rotate_left
            ·intro w'
             go_simp
             with_reducible rfl
            rotate_left
            ·simp only [Act.put, setIfInBounds_toArray, set_cons_zero, set_cons_succ, i64_w, i32_w]
             rfl
            refine pure_ (i := 11) (N := some 65) (v := ?_) (a' := ?_) #[true, true, true, true, true, true, true, true, true, true, true, true, false, false, false, false, false, false, false] rfl rfl (any_of HT_.out (by kernel_rfl)) (fun _ _ _ h => h) (Or.inl ⟨by rfl, ?_⟩) ?_ ?_
            rotate_left
            ·intro w'
             go_simp
             with_reducible rfl
            rotate_left
            ·simp only [Act.put, setIfInBounds_toArray, set_cons_zero, set_cons_succ, i64_w, i32_w]
             rfl
            refine pure_ (i := 12) (N := some 66) (v := ?_) (a' := ?_) #[true, true, true, true, true, true, true, true, true, true, true, true, true, false, false, false, false, false, false] rfl rfl (any_of HT_.out (by kernel_rfl)) (fun _ _ _ h => h) (Or.inl ⟨by rfl, ?_⟩) ?_ ?_
            rotate_left
            ·intro w'
             go_simp
             with_reducible rfl
            rotate_left
            ·simp only [Act.put, setIfInBounds_toArray, set_cons_zero, set_cons_succ, i64_w, i32_w]
             rfl
            refine pure_ (i := 13) (N := some 67) (v := ?_) (a' := ?_) #[true, true, true, true, true, true, true, true, true, true, true, true, true, true, false, false, false, false, false] rfl rfl (any_of HT_.out (by kernel_rfl)) (fun _ _ _ h => h) (Or.inl ⟨by rfl, ?_⟩) ?_ ?_
            rotate_left
            ·intro w'
             go_simp
             with_reducible rfl
            rotate_left
            ·simp only [Act.put, setIfInBounds_toArray, set_cons_zero, set_cons_succ, i64_w, i32_w]
             rfl
            refine pure_ (i := 14) (N := some 68) (v := ?_) (a' := ?_) #[true, true, true, true, true, true, true, true, true, true, true, true, true, true, true, false, false, false, false] rfl rfl (any_of HT_.out (by kernel_rfl)) (fun _ _ _ h => h) (Or.inl ⟨by rfl, ?_⟩) ?_ ?_
            rotate_left
            ·intro w'
             go_simp
             with_reducible rfl
            rotate_left
            ·simp only [Act.put, setIfInBounds_toArray, set_cons_zero, set_cons_succ, i64_w, i32_w]
             rfl
            refine pure_ (i := 15) (N := some 69) (v := ?_) (a' := ?_) #[true, true, true, true, true, true, true, true, true, true, true, true, true, true, true, true, false, false, false] rfl rfl (any_of HT_.out (by kernel_rfl)) (fun _ _ _ h => h) (Or.inl ⟨by rfl, ?_⟩) ?_ ?_
            rotate_left
            ·intro w'
             go_simp
             with_reducible rfl
            rotate_left
            ·simp only [Act.put, setIfInBounds_toArray, set_cons_zero, set_cons_succ, i64_w, i32_w]
             rfl
            refine pure_ (i := 16) (N := some 70) (v := ?_) (a' := ?_) #[true, true, true, true, true, true, true, true, true, true, true, true, true, true, true, true, true, false, false] rfl rfl (any_of HT_.out (by kernel_rfl)) (fun _ _ _ h => h) (Or.inl ⟨by rfl, ?_⟩) ?_ ?_
            rotate_left
            ·intro w'
             go_simp
             with_reducible rfl
            rotate_left
            ·simp only [Act.put, setIfInBounds_toArray, set_cons_zero, set_cons_succ, i64_w, i32_w]
             rfl
            refine pure_ (i := 17) (N := some 71) (v := ?_) (a' := ?_) #[true, true, true, true, true, true, true, true, true, true, true, true, true, true, true, true, true, true, false] rfl rfl (any_of HT_.out (by kernel_rfl)) (fun _ _ _ h => h) (Or.inl ⟨by rfl, ?_⟩) ?_ ?_
            rotate_left
            ·intro w'
             go_simp
             with_reducible rfl
            rotate_left
            ·simp only [Act.put, setIfInBounds_toArray, set_cons_zero, set_cons_succ, i64_w, i32_w]
             rfl
            refine pure_ (i := 18) (N := some 4) (v := ?_) (a' := ?_) #[true, true, true, true, true, true, true, true, true, true, true, true, true, true, true, true, true, true, true] rfl rfl (any_of HT_.out (by kernel_rfl)) (fun _ _ _ h => h) (Or.inl ⟨by rfl, ?_⟩) ?_ ?_
            rotate_left
            ·intro w'
             go_simp
             with_reducible rfl
            rotate_left
            ·simp only [Act.put, setIfInBounds_toArray, set_cons_zero, set_cons_succ, i64_w, i32_w]
             rfl
            refine done_ (done_of HT_.out (by kernel_rfl)) ?_
            try go_wp2
            go_ret
            exact ⟨by first | rfl | (simp [errW_none, errW_some] <;> rfl) | (simp [*, errW_none, errW_some] <;> rfl), bA⟩
           ·rw [if_neg c44] at H
            exact absurd H (by simp)
          ·rw [if_neg c42] at H
           have c42b0 : ((t350.extract 0 4).toList == ([114, 116, 99, 108] : List UInt8)) = false := beq_eq_false_iff_ne.mpr c42
           have c42b1 : ((t350.extract 0 4).toList != ([114, 116, 99, 108] : List UInt8)) = true := bne_iff_ne.mpr c42
           obtain rfl := Option.some.inj H
           try go_wp2
           have n0_ := Ax.mk (blk_drew BK347.out)
           have n1_ := Ax.mk (blk_drew BK348.out)
           have n2_ := Ax.mk (below_drew1 HB.out)
           clear BK347
           clear BK348
           clear HB
           have BK347 := n0_
           have BK348 := n1_
           have HB := n2_
           clear n0_ n1_ n2_
           refine start_ (n := 19) (S := fun w' => w'.cell? ⟨gb347, 0, none⟩ = some (.int .u64 a0_0) ∧ w'.cell? ⟨gb347, 1, none⟩ = some (.int .i64 a0_1) ∧ w'.cell? ⟨gb347, 2, none⟩ = some (.int .i64 a0_2) ∧ w'.cell? ⟨gb347, 3, none⟩ = some (.slice A0_3 l0_3.length c0_3) ∧ w'.cell? ⟨gb348, 0, none⟩ = some (.int .u64 a1_0) ∧ w'.cell? ⟨gb348, 1, none⟩ = some (.int .i64 a1_1) ∧ w'.cell? ⟨gb348, 2, none⟩ = some (.int .i64 a1_2) ∧ w'.cell? ⟨gb348, 3, none⟩ = some (.slice A1_3 l1_3.length c1_3)) (ds := []) #[false, false, false, false, false, false, false, false, false, false, false, false, false, false, false, false, false, false, false] (by kernel_rfl) rfl rfl ⟨(bC BK347.out 0).trans rfl, (bC BK347.out 1).trans rfl, (bC BK347.out 2).trans rfl, (bC BK347.out 3).trans rfl, (bC BK348.out 0).trans rfl, (bC BK348.out 1).trans rfl, (bC BK348.out 2).trans rfl, (bC BK348.out 3).trans rfl⟩ (fun hHeld => ?_); refine with_tabW l6_HeadApart.tab8 l6_HeadApart.bits8 (fun HT_ HW_ => ?_)
           generalize wc.drew = w49 at BK347 BK348 HB hHeld ⊢
           refine pure_ (i := 0) (N := some 54) (v := ?_) (a' := ?_) #[true, false, false, false, false, false, false, false, false, false, false, false, false, false, false, false, false, false, false] rfl rfl (any_of HT_.out (by kernel_rfl)) (fun _ _ _ h => h) (Or.inl ⟨by rfl, ?_⟩) ?_ ?_
           rotate_left
           ·intro w'
            go_simp
            with_reducible rfl
           rotate_left
           ·simp only [Act.put, setIfInBounds_toArray, set_cons_zero, set_cons_succ, i64_w, i32_w]
            rfl
           refine pure_ (i := 1) (N := some 55) (v := ?_) (a' := ?_) #[true, true, false, false, false, false, false, false, false, false, false, false, false, false, false, false, false, false, false] rfl rfl (any_of HT_.out (by kernel_rfl)) (fun _ _ _ h => h) (Or.inl ⟨by rfl, ?_⟩) ?_ ?_
           rotate_left
           ·intro w'
            go_simp
            with_reducible rfl
           rotate_left
           ·simp only [Act.put, setIfInBounds_toArray, set_cons_zero, set_cons_succ, i64_w, i32_w]
            rfl
           refine pure_ (i := 2) (N := some 56) (v := ?_) (a' := ?_) #[true, true, true, false, false, false, false, false, false, false, false, false, false, false, false, false, false, false, false] rfl rfl (any_of HT_.out (by kernel_rfl)) (fun _ _ _ h => h) (Or.inl ⟨by rfl, ?_⟩) ?_ ?_
           rotate_left
           ·intro w'
            go_simp
            with_reducible rfl
           rotate_left
           ·simp only [Act.put, setIfInBounds_toArray, set_cons_zero, set_cons_succ, i64_w, i32_w]
            rfl
           refine take_ (i := 3) (N := some 57) (v := ?_) (a' := ?_) #[true, true, true, true, false, false, false, false, false, false, false, false, false, false, false, false, false, false, false] rfl rfl (take_ofW HT_.out HW_.out (by kernel_rfl)) (fun _ _ _ h => h) (Or.inl ⟨by rfl, ?_⟩) hHeld ?_ ?_
           rotate_left
           ·rintro w' ⟨s0, s1, s2, s3, s4, s5, s6, s7⟩
            go_simp
            with_reducible rfl
           rotate_left
           ·simp only [Act.put, setIfInBounds_toArray, set_cons_zero, set_cons_succ, i64_w, i32_w]
            rfl
           refine take_ (i := 4) (N := some 58) (v := ?_) (a' := ?_) #[true, true, true, true, true, false, false, false, false, false, false, false, false, false, false, false, false, false, false] rfl rfl (take_ofW HT_.out HW_.out (by kernel_rfl)) (fun _ _ _ h => h) (Or.inl ⟨by rfl, ?_⟩) hHeld ?_ ?_
           rotate_left
           ·rintro w' ⟨s0, s1, s2, s3, s4, s5, s6, s7⟩
            go_simp
            with_reducible rfl
           rotate_left
           ·simp only [Act.put, setIfInBounds_toArray, set_cons_zero, set_cons_succ, i64_w, i32_w]
            rfl
           refine one_ (i := 5) (N := some 59) #[true, true, true, true, true, true, false, false, false, false, false, false, false, false, false, false, false, false, false] rfl rfl (one_of HT_.out (by kernel_rfl)) (by decide) (fun K hK => ?_)
           refine goes_ Tryd.func12 (by kernel_rfl) rfl #[.agg #[.int .u64 a1_0, .int .i64 a1_1, .int .i64 a1_2, .slice A1_3 l1_3.length c1_3]] (by rfl) rfl rfl (by (try simp only [List.map_toArray, List.map_cons, List.map_nil]); first | done | rfl | (simp only [List.length_drop, List.length_take]; rfl) | (rw [wrap_sum2 (by assumption)]; rfl)) ?_
           with_reducible refine (l6_as.calls a1_0 a1_1 a1_2 (fun k_ => k_ < w.heap.size) _ _ l1_3 t356 t357 t358 t359 _ ?side1 A37.out).mono ?_
           (case side1 => exact Kd.V_mk HC1_3.out (Kd.F_below (Kd.C_F k53_heap HR1_3.out) bA))
           rintro e w50 ⟨v360, rfl, ho0, hb⟩
           refine ⟨_, rfl, ?_⟩
           have n0_ := Ax.mk (Kd.V_lower (Kd.V_mono (ok' := fun k_ => k_ ≠ gb347 ∧ k_ ≠ gb348) ho0 (fun k_ hk_ => ⟨Or.elim hk_ (fun hs_ => fun e_ => Nat.not_le.2 hs_ (by rw [e_]; exact GW347.out)) (fun hn_ => (Kd.freshB (g := gb347) (o := .cells #[.int .u64 a0_0, .int .i64 a0_1, .int .i64 a0_2, .slice A0_3 l0_3.length c0_3] 25 (0, 0)) (bT BK347.out) k_ hn_)), Or.elim hk_ (fun hs_ => fun e_ => Nat.not_le.2 hs_ (by rw [e_]; exact GW348.out)) (fun hn_ => (Kd.freshB (g := gb348) (o := .cells #[.int .u64 a1_0, .int .i64 a1_1, .int .i64 a1_2, .slice A1_3 l1_3.length c1_3] 25 (0, 0)) (bT BK348.out) k_ hn_))⟩)) (bS bA))
           have n1_ := Ax.mk (bB (bT BK347.out) hb)
           have n2_ := Ax.mk (bB (bT BK348.out) hb)
           have n3_ := Ax.mk (bP bA hb)
           clear BK347
           clear BK348
           clear HB
           have HO361 := n0_
           have BK347 := n1_
           have BK348 := n2_
           have HB := n3_
           clear n0_ n1_ n2_ n3_
           (try clear hb)
           (try clear hb2)
           (try clear hk)
           (try clear hi)
           (try clear ho0)
           obtain ⟨Ao51, co51, eo51⟩ := Kd.V_slice HO361.out
           (first | subst eo51 | (injection eo51 with f1_ f2_ f3_; have f4_ := f1_.symm; have f5_ := f3_.symm; clear f1_ f2_ f3_; subst f4_; subst f5_))
           refine hK.out _ _ ⟨(bC BK347.out 0).trans rfl, (bC BK347.out 1).trans rfl, (bC BK347.out 2).trans rfl, (bC BK347.out 3).trans rfl, (bC BK348.out 0).trans rfl, (bC BK348.out 1).trans rfl, (bC BK348.out 2).trans rfl, (bC BK348.out 3).trans rfl⟩ (fun hHeld => ?_)
           clear hK K
           refine norm_ (a' := ?_) ?_ ?_
           rotate_left
           ·show Act.put _ (some 59) _ = _
            simp only [Act.put, setIfInBounds_toArray, set_cons_zero, set_cons_succ, i64_w, i32_w]
            rfl
           refine one_ (i := 6) (N := some 60) #[true, true, true, true, true, true, true, false, false, false, false, false, false, false, false, false, false, false, false] rfl rfl (one_of HT_.out (by kernel_rfl)) (by decide) (fun K hK => ?_)
           refine goes_ Tryd.func20 (by kernel_rfl) rfl #[.agg #[.int .u64 a0_0, .int .i64 a0_1, .int .i64 a0_2, .slice A0_3 l0_3.length c0_3], .agg #[.int .u64 t356, .int .i64 t357, .int .i64 t358, .slice Ao51 t359.length co51]] (by rfl) rfl rfl (by (try simp only [List.map_toArray, List.map_cons, List.map_nil]); first | done | rfl | (simp only [List.length_drop, List.length_take]; rfl) | (rw [wrap_sum2 (by assumption)]; rfl)) ?_
           with_reducible refine (l6_same.calls kj17 a0_0 a0_1 a0_2 _ _ l0_3 t356 t357 t358 _ _ t359 t362 _ ?side1 ?side2 ?side3 ?side4 A38.out).mono ?_
           (case side1 => repeat (first | exact (Kd.C_below HR0_3.out HB.out) | (with_reducible refine Kd.C_alloc ?_ _) | (with_reducible refine Kd.C_drewN ?_ _) | (with_reducible refine Kd.C_drew ?_)))
           (case side2 => exact HC0_3.out)
           (case side3 => repeat (first | exact (Kd.V_reads' HO361.out).2.2 | (with_reducible refine Kd.C_alloc ?_ _) | (with_reducible refine Kd.C_drewN ?_ _) | (with_reducible refine Kd.C_drew ?_)))
           (case side4 => exact (Kd.V_reads' HO361.out).2.1)
           rintro e w52 ⟨rfl, hb⟩
           refine ⟨_, rfl, ?_⟩
           have n0_ := Ax.mk (Kd.V_below (by exact Kd.V_to HO361.out) hb)
           have n1_ := Ax.mk (bB (bT BK347.out) hb)
           have n2_ := Ax.mk (bB (bT BK348.out) hb)
           have n3_ := Ax.mk (bP bA hb)
           clear HO361
           clear BK347
           clear BK348
           clear HB
           have HO361 := n0_
           have BK347 := n1_
           have BK348 := n2_
           have HB := n3_
           clear n0_ n1_ n2_ n3_
           (try clear hb)
           (try clear hb2)
           (try clear hk)
           (try clear hi)
           refine hK.out _ _ ⟨(bC BK347.out 0).trans rfl, (bC BK347.out 1).trans rfl, (bC BK347.out 2).trans rfl, (bC BK347.out 3).trans rfl, (bC BK348.out 0).trans rfl, (bC BK348.out 1).trans rfl, (bC BK348.out 2).trans rfl, (bC BK348.out 3).trans rfl⟩ (fun hHeld => ?_)
           clear hK K
           refine norm_ (a' := ?_) ?_ ?_
           rotate_left
           ·show Act.put _ (some 60) _ = _
            simp only [Act.put, setIfInBounds_toArray, set_cons_zero, set_cons_succ, i64_w, i32_w]
            rfl
           refine pure_ (i := 7) (N := some 61) (v := ?_) (a' := ?_) #[true, true, true, true, true, true, true, true, false, false, false, false, false, false, false, false, false, false, false] rfl rfl (any_of HT_.out (by kernel_rfl)) (fun _ _ _ h => h) (Or.inl ⟨by rfl, ?_⟩) ?_ ?_
           rotate_left
           ·intro w'
            go_simp
            with_reducible rfl
           rotate_left
           ·simp only [Act.put, setIfInBounds_toArray, set_cons_zero, set_cons_succ, i64_w, i32_w]
            rfl
           refine pure_ (i := 8) (N := some 62) (v := ?_) (a' := ?_) #[true, true, true, true, true, true, true, true, true, false, false, false, false, false, false, false, false, false, false] rfl rfl (any_of HT_.out (by kernel_rfl)) (fun _ _ _ h => h) (Or.inl ⟨by rfl, ?_⟩) ?_ ?_
           rotate_left
           ·intro w'
            go_simp
            with_reducible rfl
           rotate_left
           ·simp only [Act.put, setIfInBounds_toArray, set_cons_zero, set_cons_succ, i64_w, i32_w]
            rfl
           refine pure_ (i := 9) (N := some 63) (v := ?_) (a' := ?_) #[true, true, true, true, true, true, true, true, true, true, false, false, false, false, false, false, false, false, false] rfl rfl (any_of HT_.out (by kernel_rfl)) (fun _ _ _ h => h) (Or.inl ⟨by rfl, ?_⟩) ?_ ?_
           rotate_left
           ·intro w'
            go_simp
            with_reducible rfl
           rotate_left
           ·simp only [Act.put, setIfInBounds_toArray, set_cons_zero, set_cons_succ, i64_w, i32_w]
            rfl
           refine pure_ (i := 10) (N := some 64) (v := ?_) (a' := ?_) #[true, true, true, true, true, true, true, true, true, true, true, false, false, false, false, false, false, false, false] rfl rfl (any_of HT_.out (by kernel_rfl)) (fun _ _ _ h => h) (Or.inl ⟨by rfl, ?_⟩) ?_ ?_
           rotate_left
           ·intro w'
            go_simp
            with_reducible rfl
           rotate_left
           ·simp only [Act.put, setIfInBounds_toArray, set_cons_zero, set_cons_succ, i64_w, i32_w]
            rfl
           refine pure_ (i := 11) (N := some 65) (v := ?_) (a' := ?_) #[true, true, true, true, true, true, true, true, true, true, true, true, false, false, false, false, false, false, false] rfl rfl (any_of HT_.out (by kernel_rfl)) (fun _ _ _ h => h) (Or.inl ⟨by rfl, ?_⟩) ?_ ?_
           rotate_left
           ·intro w'
            go_simp
            with_reducible rfl
           rotate_left
           ·simp only [Act.put, setIfInBounds_toArray, set_cons_zero, set_cons_succ, i64_w, i32_w]
            rfl
           refine pure_ (i := 12) (N := some 66) (v := ?_) (a' := ?_) #[true, true, true, true, true, true, true, true, true, true, true, true, true, false, false, false, false, false, false] rfl rfl (any_of HT_.out (by kernel_rfl)) (fun _ _ _ h => h) (Or.inl ⟨by rfl, ?_⟩) ?_ ?_
           rotate_left
           ·intro w'
            go_simp
            with_reducible rfl
           rotate_left
           ·simp only [Act.put, setIfInBounds_toArray, set_cons_zero, set_cons_succ, i64_w, i32_w]
            rfl
           refine pure_ (i := 13) (N := some 67) (v := ?_) (a' := ?_) #[true, true, true, true, true, true, true, true, true, true, true, true, true, true, false, false, false, false, false] rfl rfl (any_of HT_.out (by kernel_rfl)) (fun _ _ _ h => h) (Or.inl ⟨by rfl, ?_⟩) ?_ ?_
           rotate_left
           ·intro w'
            go_simp
            with_reducible rfl
           rotate_left
           ·simp only [Act.put, setIfInBounds_toArray, set_cons_zero, set_cons_succ, i64_w, i32_w]
            rfl
           refine pure_ (i := 14) (N := some 68) (v := undef) (a' := ?_) #[true, true, true, true, true, true, true, true, true, true, true, true, true, true, true, false, false, false, false] rfl rfl (any_of HT_.out (by kernel_rfl)) (fun _ _ _ h => h) (Or.inr ⟨by rfl, rfl⟩) ?_ ?_
           rotate_left
           ·simp only [Act.put, setIfInBounds_toArray, set_cons_zero, set_cons_succ, i64_w, i32_w]
            rfl
           refine pure_ (i := 15) (N := some 69) (v := undef) (a' := ?_) #[true, true, true, true, true, true, true, true, true, true, true, true, true, true, true, true, false, false, false] rfl rfl (any_of HT_.out (by kernel_rfl)) (fun _ _ _ h => h) (Or.inr ⟨by rfl, rfl⟩) ?_ ?_
           rotate_left
           ·simp only [Act.put, setIfInBounds_toArray, set_cons_zero, set_cons_succ, i64_w, i32_w]
            rfl
           refine pure_ (i := 16) (N := some 70) (v := undef) (a' := ?_) #[true, true, true, true, true, true, true, true, true, true, true, true, true, true, true, true, true, false, false] rfl rfl (any_of HT_.out (by kernel_rfl)) (fun _ _ _ h => h) (Or.inr ⟨by rfl, rfl⟩) ?_ ?_
           rotate_left
           ·simp only [Act.put, setIfInBounds_toArray, set_cons_zero, set_cons_succ, i64_w, i32_w]
            rfl
           refine pure_ (i := 17) (N := some 71) (v := ?_) (a' := ?_) #[true, true, true, true, true, true, true, true, true, true, true, true, true, true, true, true, true, true, false] rfl rfl (any_of HT_.out (by kernel_rfl)) (fun _ _ _ h => h) (Or.inl ⟨by rfl, ?_⟩) ?_ ?_
           rotate_left
           ·intro w'
            go_simp
            with_reducible rfl
           rotate_left
           ·simp only [Act.put, setIfInBounds_toArray, set_cons_zero, set_cons_succ, i64_w, i32_w]
            rfl
           refine pure_ (i := 18) (N := some 4) (v := ?_) (a' := ?_) #[true, true, true, true, true, true, true, true, true, true, true, true, true, true, true, true, true, true, true] rfl rfl (any_of HT_.out (by kernel_rfl)) (fun _ _ _ h => h) (Or.inl ⟨by rfl, ?_⟩) ?_ ?_
           rotate_left
           ·intro w'
            go_simp
            with_reducible rfl
           rotate_left
           ·simp only [Act.put, setIfInBounds_toArray, set_cons_zero, set_cons_succ, i64_w, i32_w]
            rfl
           refine done_ (done_of HT_.out (by kernel_rfl)) ?_
           try go_wp2
           go_ret
           exact ⟨by first | rfl | (simp [errW_none, errW_some] <;> rfl) | (simp [*, errW_none, errW_some] <;> rfl), bA⟩
         ·rw [if_neg c41] at H
          exact absurd H (by simp)
        ·rw [if_neg c40] at H
         exact absurd H (by simp)
       ·rw [if_neg c39] at H
        have c39b0 : ((t350.toList == t352.toList) == t362) = false := by simpa using c39
        (try (have c39b1 : decide ((t350.toList == t352.toList) = t362) = false := by simpa using c39))
        (try (have c39b2 : ((t350.toList == t352.toList) == t362) = false := by simpa using c39))
        (try (have c39b3 : ¬ ((t350.toList == t352.toList) = t362) := by simpa using c39))
        clear c39
        obtain rfl := Option.some.inj H
        try go_wp2
        have n0_ := Ax.mk (blk_drew BK347.out)
        have n1_ := Ax.mk (blk_drew BK348.out)
        have n2_ := Ax.mk (below_drew1 HB.out)
        clear BK347
        clear BK348
        clear HB
        have BK347 := n0_
        have BK348 := n1_
        have HB := n2_
        clear n0_ n1_ n2_
        refine start_ (n := 19) (S := fun w' => w'.cell? ⟨gb347, 0, none⟩ = some (.int .u64 a0_0) ∧ w'.cell? ⟨gb347, 1, none⟩ = some (.int .i64 a0_1) ∧ w'.cell? ⟨gb347, 2, none⟩ = some (.int .i64 a0_2) ∧ w'.cell? ⟨gb347, 3, none⟩ = some (.slice A0_3 l0_3.length c0_3) ∧ w'.cell? ⟨gb348, 0, none⟩ = some (.int .u64 a1_0) ∧ w'.cell? ⟨gb348, 1, none⟩ = some (.int .i64 a1_1) ∧ w'.cell? ⟨gb348, 2, none⟩ = some (.int .i64 a1_2) ∧ w'.cell? ⟨gb348, 3, none⟩ = some (.slice A1_3 l1_3.length c1_3)) (ds := []) #[false, false, false, false, false, false, false, false, false, false, false, false, false, false, false, false, false, false, false] (by kernel_rfl) rfl rfl ⟨(bC BK347.out 0).trans rfl, (bC BK347.out 1).trans rfl, (bC BK347.out 2).trans rfl, (bC BK347.out 3).trans rfl, (bC BK348.out 0).trans rfl, (bC BK348.out 1).trans rfl, (bC BK348.out 2).trans rfl, (bC BK348.out 3).trans rfl⟩ (fun hHeld => ?_); refine with_tabW l6_HeadApart.tab8 l6_HeadApart.bits8 (fun HT_ HW_ => ?_)
        generalize wc.drew = w53 at BK347 BK348 HB hHeld ⊢
        refine pure_ (i := 0) (N := some 54) (v := ?_) (a' := ?_) #[true, false, false, false, false, false, false, false, false, false, false, false, false, false, false, false, false, false, false] rfl rfl (any_of HT_.out (by kernel_rfl)) (fun _ _ _ h => h) (Or.inl ⟨by rfl, ?_⟩) ?_ ?_
        rotate_left
        ·intro w'
         go_simp
         with_reducible rfl
        rotate_left
        ·simp only [Act.put, setIfInBounds_toArray, set_cons_zero, set_cons_succ, i64_w, i32_w]
         rfl
        refine pure_ (i := 1) (N := some 55) (v := ?_) (a' := ?_) #[true, true, false, false, false, false, false, false, false, false, false, false, false, false, false, false, false, false, false] rfl rfl (any_of HT_.out (by kernel_rfl)) (fun _ _ _ h => h) (Or.inl ⟨by rfl, ?_⟩) ?_ ?_
        rotate_left
        ·intro w'
         go_simp
         with_reducible rfl
        rotate_left
        ·simp only [Act.put, setIfInBounds_toArray, set_cons_zero, set_cons_succ, i64_w, i32_w]
         rfl
        refine pure_ (i := 2) (N := some 56) (v := ?_) (a' := ?_) #[true, true, true, false, false, false, false, false, false, false, false, false, false, false, false, false, false, false, false] rfl rfl (any_of HT_.out (by kernel_rfl)) (fun _ _ _ h => h) (Or.inl ⟨by rfl, ?_⟩) ?_ ?_
        rotate_left
        ·intro w'
         go_simp
         with_reducible rfl
        rotate_left
        ·simp only [Act.put, setIfInBounds_toArray, set_cons_zero, set_cons_succ, i64_w, i32_w]
         rfl
        refine take_ (i := 3) (N := some 57) (v := ?_) (a' := ?_) #[true, true, true, true, false, false, false, false, false, false, false, false, false, false, false, false, false, false, false] rfl rfl (take_ofW HT_.out HW_.out (by kernel_rfl)) (fun _ _ _ h => h) (Or.inl ⟨by rfl, ?_⟩) hHeld ?_ ?_
        rotate_left
        ·rintro w' ⟨s0, s1, s2, s3, s4, s5, s6, s7⟩
         go_simp
         with_reducible rfl
        rotate_left
        ·simp only [Act.put, setIfInBounds_toArray, set_cons_zero, set_cons_succ, i64_w, i32_w]
         rfl
        refine take_ (i := 4) (N := some 58) (v := ?_) (a' := ?_) #[true, true, true, true, true, false, false, false, false, false, false, false, false, false, false, false, false, false, false] rfl rfl (take_ofW HT_.out HW_.out (by kernel_rfl)) (fun _ _ _ h => h) (Or.inl ⟨by rfl, ?_⟩) hHeld ?_ ?_
        rotate_left
        ·rintro w' ⟨s0, s1, s2, s3, s4, s5, s6, s7⟩
         go_simp
         with_reducible rfl
        rotate_left
        ·simp only [Act.put, setIfInBounds_toArray, set_cons_zero, set_cons_succ, i64_w, i32_w]
         rfl
        refine one_ (i := 5) (N := some 59) #[true, true, true, true, true, true, false, false, false, false, false, false, false, false, false, false, false, false, false] rfl rfl (one_of HT_.out (by kernel_rfl)) (by decide) (fun K hK => ?_)
        refine goes_ Tryd.func12 (by kernel_rfl) rfl #[.agg #[.int .u64 a1_0, .int .i64 a1_1, .int .i64 a1_2, .slice A1_3 l1_3.length c1_3]] (by rfl) rfl rfl (by (try simp only [List.map_toArray, List.map_cons, List.map_nil]); first | done | rfl | (simp only [List.length_drop, List.length_take]; rfl) | (rw [wrap_sum2 (by assumption)]; rfl)) ?_
        with_reducible refine (l6_as.calls a1_0 a1_1 a1_2 (fun k_ => k_ < w.heap.size) _ _ l1_3 t356 t357 t358 t359 _ ?side1 A37.out).mono ?_
        (case side1 => exact Kd.V_mk HC1_3.out (Kd.F_below (Kd.C_F k53_heap HR1_3.out) bA))
        rintro e w54 ⟨v360, rfl, ho0, hb⟩
        refine ⟨_, rfl, ?_⟩
        have n0_ := Ax.mk (Kd.V_lower (Kd.V_mono (ok' := fun k_ => k_ ≠ gb347 ∧ k_ ≠ gb348) ho0 (fun k_ hk_ => ⟨Or.elim hk_ (fun hs_ => fun e_ => Nat.not_le.2 hs_ (by rw [e_]; exact GW347.out)) (fun hn_ => (Kd.freshB (g := gb347) (o := .cells #[.int .u64 a0_0, .int .i64 a0_1, .int .i64 a0_2, .slice A0_3 l0_3.length c0_3] 25 (0, 0)) (bT BK347.out) k_ hn_)), Or.elim hk_ (fun hs_ => fun e_ => Nat.not_le.2 hs_ (by rw [e_]; exact GW348.out)) (fun hn_ => (Kd.freshB (g := gb348) (o := .cells #[.int .u64 a1_0, .int .i64 a1_1, .int .i64 a1_2, .slice A1_3 l1_3.length c1_3] 25 (0, 0)) (bT BK348.out) k_ hn_))⟩)) (bS bA))
        have n1_ := Ax.mk (bB (bT BK347.out) hb)
        have n2_ := Ax.mk (bB (bT BK348.out) hb)
        have n3_ := Ax.mk (bP bA hb)
        clear BK347
        clear BK348
        clear HB
        have HO361 := n0_
        have BK347 := n1_
        have BK348 := n2_
        have HB := n3_
        clear n0_ n1_ n2_ n3_
        (try clear hb)
        (try clear hb2)
        (try clear hk)
        (try clear hi)
        (try clear ho0)
        obtain ⟨Ao55, co55, eo55⟩ := Kd.V_slice HO361.out
        (first | subst eo55 | (injection eo55 with f1_ f2_ f3_; have f4_ := f1_.symm; have f5_ := f3_.symm; clear f1_ f2_ f3_; subst f4_; subst f5_))
        refine hK.out _ _ ⟨(bC BK347.out 0).trans rfl, (bC BK347.out 1).trans rfl, (bC BK347.out 2).trans rfl, (bC BK347.out 3).trans rfl, (bC BK348.out 0).trans rfl, (bC BK348.out 1).trans rfl, (bC BK348.out 2).trans rfl, (bC BK348.out 3).trans rfl⟩ (fun hHeld => ?_)
        clear hK K
        refine norm_ (a' := ?_) ?_ ?_
        rotate_left
        ·show Act.put _ (some 59) _ = _
         simp only [Act.put, setIfInBounds_toArray, set_cons_zero, set_cons_succ, i64_w, i32_w]
         rfl
        refine one_ (i := 6) (N := some 60) #[true, true, true, true, true, true, true, false, false, false, false, false, false, false, false, false, false, false, false] rfl rfl (one_of HT_.out (by kernel_rfl)) (by decide) (fun K hK => ?_)
        refine goes_ Tryd.func20 (by kernel_rfl) rfl #[.agg #[.int .u64 a0_0, .int .i64 a0_1, .int .i64 a0_2, .slice A0_3 l0_3.length c0_3], .agg #[.int .u64 t356, .int .i64 t357, .int .i64 t358, .slice Ao55 t359.length co55]] (by rfl) rfl rfl (by (try simp only [List.map_toArray, List.map_cons, List.map_nil]); first | done | rfl | (simp only [List.length_drop, List.length_take]; rfl) | (rw [wrap_sum2 (by assumption)]; rfl)) ?_
        with_reducible refine (l6_same.calls kj17 a0_0 a0_1 a0_2 _ _ l0_3 t356 t357 t358 _ _ t359 t362 _ ?side1 ?side2 ?side3 ?side4 A38.out).mono ?_
        (case side1 => repeat (first | exact (Kd.C_below HR0_3.out HB.out) | (with_reducible refine Kd.C_alloc ?_ _) | (with_reducible refine Kd.C_drewN ?_ _) | (with_reducible refine Kd.C_drew ?_)))
        (case side2 => exact HC0_3.out)
        (case side3 => repeat (first | exact (Kd.V_reads' HO361.out).2.2 | (with_reducible refine Kd.C_alloc ?_ _) | (with_reducible refine Kd.C_drewN ?_ _) | (with_reducible refine Kd.C_drew ?_)))
        (case side4 => exact (Kd.V_reads' HO361.out).2.1)
        rintro e w56 ⟨rfl, hb⟩
        refine ⟨_, rfl, ?_⟩
        have n0_ := Ax.mk (Kd.V_below (by exact Kd.V_to HO361.out) hb)
        have n1_ := Ax.mk (bB (bT BK347.out) hb)
        have n2_ := Ax.mk (bB (bT BK348.out) hb)
        have n3_ := Ax.mk (bP bA hb)
        clear HO361
        clear BK347
        clear BK348
        clear HB
        have HO361 := n0_
        have BK347 := n1_
        have BK348 := n2_
        have HB := n3_
        clear n0_ n1_ n2_ n3_
        (try clear hb)
        (try clear hb2)
        (try clear hk)
        (try clear hi)
        refine hK.out _ _ ⟨(bC BK347.out 0).trans rfl, (bC BK347.out 1).trans rfl, (bC BK347.out 2).trans rfl, (bC BK347.out 3).trans rfl, (bC BK348.out 0).trans rfl, (bC BK348.out 1).trans rfl, (bC BK348.out 2).trans rfl, (bC BK348.out 3).trans rfl⟩ (fun hHeld => ?_)
        clear hK K
        refine norm_ (a' := ?_) ?_ ?_
        rotate_left
        ·show Act.put _ (some 60) _ = _
         simp only [Act.put, setIfInBounds_toArray, set_cons_zero, set_cons_succ, i64_w, i32_w]
         rfl
        refine pure_ (i := 7) (N := some 61) (v := ?_) (a' := ?_) #[true, true, true, true, true, true, true, true, false, false, false, false, false, false, false, false, false, false, false] rfl rfl (any_of HT_.out (by kernel_rfl)) (fun _ _ _ h => h) (Or.inl ⟨by rfl, ?_⟩) ?_ ?_
        rotate_left
        ·intro w'
         go_simp
         with_reducible rfl
        rotate_left
        ·simp only [Act.put, setIfInBounds_toArray, set_cons_zero, set_cons_succ, i64_w, i32_w]
         rfl
        refine pure_ (i := 8) (N := some 62) (v := ?_) (a' := ?_) #[true, true, true, true, true, true, true, true, true, false, false, false, false, false, false, false, false, false, false] rfl rfl (any_of HT_.out (by kernel_rfl)) (fun _ _ _ h => h) (Or.inl ⟨by rfl, ?_⟩) ?_ ?_
        rotate_left
        ·intro w'
         go_simp
         with_reducible rfl
        rotate_left
        ·simp only [Act.put, setIfInBounds_toArray, set_cons_zero, set_cons_succ, i64_w, i32_w]
         rfl
        refine pure_ (i := 9) (N := some 63) (v := undef) (a' := ?_) #[true, true, true, true, true, true, true, true, true, true, false, false, false, false, false, false, false, false, false] rfl rfl (any_of HT_.out (by kernel_rfl)) (fun _ _ _ h => h) (Or.inr ⟨by rfl, rfl⟩) ?_ ?_
        rotate_left
        ·simp only [Act.put, setIfInBounds_toArray, set_cons_zero, set_cons_succ, i64_w, i32_w]
         rfl
        refine pure_ (i := 10) (N := some 64) (v := undef) (a' := ?_) #[true, true, true, true, true, true, true, true, true, true, true, false, false, false, false, false, false, false, false] rfl rfl (any_of HT_.out (by kernel_rfl)) (fun _ _ _ h => h) (Or.inr ⟨by rfl, rfl⟩) ?_ ?_
        rotate_left
        ·simp only [Act.put, setIfInBounds_toArray, set_cons_zero, set_cons_succ, i64_w, i32_w]
         rfl
        refine pure_ (i := 11) (N := some 65) (v := undef) (a' := ?_) #[true, true, true, true, true, true, true, true, true, true, true, true, false, false, false, false, false, false, false] rfl rfl (any_of HT_.out (by kernel_rfl)) (fun _ _ _ h => h) (Or.inr ⟨by rfl, rfl⟩) ?_ ?_
        rotate_left
        ·simp only [Act.put, setIfInBounds_toArray, set_cons_zero, set_cons_succ, i64_w, i32_w]
         rfl
        refine pure_ (i := 12) (N := some 66) (v := ?_) (a' := ?_) #[true, true, true, true, true, true, true, true, true, true, true, true, true, false, false, false, false, false, false] rfl rfl (any_of HT_.out (by kernel_rfl)) (fun _ _ _ h => h) (Or.inl ⟨by rfl, ?_⟩) ?_ ?_
        rotate_left
        ·intro w'
         go_simp
         with_reducible rfl
        rotate_left
        ·simp only [Act.put, setIfInBounds_toArray, set_cons_zero, set_cons_succ, i64_w, i32_w]
         rfl
        refine pure_ (i := 13) (N := some 67) (v := ?_) (a' := ?_) #[true, true, true, true, true, true, true, true, true, true, true, true, true, true, false, false, false, false, false] rfl rfl (any_of HT_.out (by kernel_rfl)) (fun _ _ _ h => h) (Or.inl ⟨by rfl, ?_⟩) ?_ ?_
        rotate_left
        ·intro w'
         go_simp
         with_reducible rfl
        rotate_left
        ·simp only [Act.put, setIfInBounds_toArray, set_cons_zero, set_cons_succ, i64_w, i32_w]
         rfl
        refine pure_ (i := 14) (N := some 68) (v := undef) (a' := ?_) #[true, true, true, true, true, true, true, true, true, true, true, true, true, true, true, false, false, false, false] rfl rfl (any_of HT_.out (by kernel_rfl)) (fun _ _ _ h => h) (Or.inr ⟨by rfl, rfl⟩) ?_ ?_
        rotate_left
        ·simp only [Act.put, setIfInBounds_toArray, set_cons_zero, set_cons_succ, i64_w, i32_w]
         rfl
        refine pure_ (i := 15) (N := some 69) (v := undef) (a' := ?_) #[true, true, true, true, true, true, true, true, true, true, true, true, true, true, true, true, false, false, false] rfl rfl (any_of HT_.out (by kernel_rfl)) (fun _ _ _ h => h) (Or.inr ⟨by rfl, rfl⟩) ?_ ?_
        rotate_left
        ·simp only [Act.put, setIfInBounds_toArray, set_cons_zero, set_cons_succ, i64_w, i32_w]
         rfl
        refine pure_ (i := 16) (N := some 70) (v := undef) (a' := ?_) #[true, true, true, true, true, true, true, true, true, true, true, true, true, true, true, true, true, false, false] rfl rfl (any_of HT_.out (by kernel_rfl)) (fun _ _ _ h => h) (Or.inr ⟨by rfl, rfl⟩) ?_ ?_
        rotate_left
        ·simp only [Act.put, setIfInBounds_toArray, set_cons_zero, set_cons_succ, i64_w, i32_w]
         rfl
        refine pure_ (i := 17) (N := some 71) (v := ?_) (a' := ?_) #[true, true, true, true, true, true, true, true, true, true, true, true, true, true, true, true, true, true, false] rfl rfl (any_of HT_.out (by kernel_rfl)) (fun _ _ _ h => h) (Or.inl ⟨by rfl, ?_⟩) ?_ ?_
        rotate_left
        ·intro w'
         go_simp
         with_reducible rfl
        rotate_left
        ·simp only [Act.put, setIfInBounds_toArray, set_cons_zero, set_cons_succ, i64_w, i32_w]
         rfl
        refine pure_ (i := 18) (N := some 4) (v := ?_) (a' := ?_) #[true, true, true, true, true, true, true, true, true, true, true, true, true, true, true, true, true, true, true] rfl rfl (any_of HT_.out (by kernel_rfl)) (fun _ _ _ h => h) (Or.inl ⟨by rfl, ?_⟩) ?_ ?_
        rotate_left
        ·intro w'
         go_simp
         with_reducible rfl
        rotate_left
        ·simp only [Act.put, setIfInBounds_toArray, set_cons_zero, set_cons_succ, i64_w, i32_w]
         rfl
        refine done_ (done_of HT_.out (by kernel_rfl)) ?_
        try go_wp2
        go_ret
        exact ⟨by first | rfl | (simp [errW_none, errW_some] <;> rfl) | (simp [*, errW_none, errW_some] <;> rfl), bA⟩
end Go.Proofs.YtcgejogmiglalaaDoor.Fn
end
