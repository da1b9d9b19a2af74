-- Packed by pack.py, a program of this session, out of texts of this claim.
import Derived.Test.YtboommbclbjlnaaDoorClJournalSame1
import Derived.Test.YtboommbclbjlnaaDoorClJournalSame4
import Derived.Test.YtboommbclbjlnaaDoorClJournalSame3
section
-- Written by printx.py, a program of this session over the kit's print: each Go function as a plain Lean function, and that the Go code computes it.
namespace Go.Proofs.YtboommbclbjlnaaDoor.Fn
open Go.RowKit Go.Proofs.YtboommbclbjlnaaDoorW.PrintWords Go.Proofs.YtboommbclbjlnaaDoorW.PrintLast Go.Proofs.YtboommbclbjlnaaDoorW.PrintMore Go.Proofs.YtboommbclbjlnaaDoor.Lf
open List (setIfInBounds_toArray set_cons_zero set_cons_succ)
attribute [local go_sem] max2_int min2_int max_two min_two max_three min_three max_four min_four   -- for this text's walks alone
set_option linter.unusedVariables false
set_option linter.unusedSimpArgs false
def l13_JournalSame.j0 : Nat → Int → Int → List (List (S24)) → List (List (S24)) → Bool → Bool → Option (Bool)
 | 0, _, _, _, _, _, _ => none
 | k + 1, x0, x1, x2, x3, x9, x32 => if x32 = true then (some x9) else ((l13_built.f k x0 ([] : List (S24)) x2).bind fun bt322 => ((l13_built.f k x1 ([] : List (S24)) x3).bind fun bt335 => (if bt322.2.2.2.2.2.2 = true then (if bt335.2.2.2.2.2.2 = true then ((l13_same.f k bt322.1 bt322.2.1 bt322.2.2.1 bt335.2.2.2.1 bt335.2.2.2.2.1 bt335.2.2.2.2.2.1).bind fun t348 => (if ((bt322.2.2.1.toList == bt335.2.2.1.toList) == t348) = true then (some ((bt322.2.2.2.2.2.1.size : Int) == (bt322.2.2.1.size : Int))) else (none))) else (none)) else (none))))
def l13_JournalSame.f (k : Nat) (a0 : Int) (a1 : Int) (l2 : List (List (S24))) (l3 : List (List (S24))) : Option (Bool) := (l13_shown.f k).bind fun t319 => ((l13_short.f k l2).bind fun t320 => ((l13_short.f k l3).bind fun t321 => (if t319 = true then (if t320 = true then (l13_JournalSame.j0 k a0 a1 l2 l3 t319 (!t321)) else (l13_JournalSame.j0 k a0 a1 l2 l3 t319 true)) else (l13_JournalSame.j0 k a0 a1 l2 l3 t319 true))))
def l13_JournalSame.T8 : Bool × List (List Nat × List Nat) := (true, [([], []), ([0], [0]), ([1], [1]), ([1, 2], [1, 2]), ([3, 1], [3]), ([4], [4]), ([5, 4], [4, 5]), ([4], [4]), ([7, 4], [4, 7]), ([6, 8, 4], [4, 6, 8]), ([4], [4]), ([4], [4]), ([10, 11, 4, 4], [4, 10, 11]), ([9, 12, 4], [4, 9, 12]), ([4, 13], [4, 13]), ([14, 12], [14]), ([15], [15]), ([16, 15], [15, 16]), ([17, 15], [15, 17]), ([15], [15]), ([19, 15], [15, 19]), ([20, 15], [15, 20]), ([18, 21, 15], [15, 18, 21]), ([15, 22], [15, 22]), ([23, 15, 0, 1, 2, 3, 4, 5, 6, 7, 8, 9, 10, 11, 12, 13, 14, 15, 16, 17, 18, 19, 20, 21, 22, 23], [23])])
def l13_JournalSame.B8 : List Nat := [0, 1, 3, 7, 15, 31, 63, 31, 159, 511, 31, 31, 3103, 8191, 16383, 32767, 65535, 131071, 262143, 65535, 589823, 1638399, 4194303, 8388607, 16777215]
theorem l13_JournalSame.tab8 : rtab .any (opsOf Tryd.f12 8) = l13_JournalSame.T8 := by kernel_rfl
theorem l13_JournalSame.bits8 : waitsOk l13_JournalSame.T8.2 l13_JournalSame.B8 = true := by kernel_rfl
set_option maxHeartbeats 8000000 in
set_option maxRecDepth 100000 in
theorem l13_JournalSame.calls (k : Nat) (a0 : Int) (a1 : Int) (A2 : Option Addr) (c2 : Nat) (l2 : List (List (S24))) (A3 : Option Addr) (c3 : Nat) (l3 : List (List (S24))) (r : Bool) (w : World) (hr2 : Kd.C (Kd.slice 24 k24) w A2 l2.length l2) (hc2 : l2.length ≤ c2) (hr3 : Kd.C (Kd.slice 24 k24) w A3 l3.length l3) (hc3 : l3.length ≤ c3) (h : l13_JournalSame.f k a0 a1 l2 l3 = some r) (HT : Tabs w) :
  Calls Tryd.prog 12 #[.int .u64 a0, .int .u64 a1, .slice A2 l2.length c2, .slice A3 l3.length c3] w fun e w' => e = .returned (.bool r) ∧ Below w.heap.size w w' := by
 have hu66 := Tryd.underlying66
 have hu68 := Tryd.underlying68
 have HR2 := Ax.mk hr2
 have HC2 := Ax.mk hc2
 clear hr2 hc2
 have HR3 := Ax.mk hr3
 have HC3 := Ax.mk hc3
 clear hr3 hc3
 have HB := Ax.mk (Below.refl w.heap.size w)
 have H : ((l13_shown.f k).bind fun t319 => ((l13_short.f k l2).bind fun t320 => ((l13_short.f k l3).bind fun t321 => (if t319 = true then (if t320 = true then (l13_JournalSame.j0 k a0 a1 l2 l3 t319 (!t321)) else (l13_JournalSame.j0 k a0 a1 l2 l3 t319 true)) else (l13_JournalSame.j0 k a0 a1 l2 l3 t319 true))))) = some r := h
 clear h
 replace H := Option.bind_eq_some_iff.mp H
 obtain ⟨t319, A50, H⟩ := H
 replace H : ((l13_short.f k l2).bind fun t320 => ((l13_short.f k l3).bind fun t321 => (if t319 = true then (if t320 = true then (l13_JournalSame.j0 k a0 a1 l2 l3 t319 (!t321)) else (l13_JournalSame.j0 k a0 a1 l2 l3 t319 true)) else (l13_JournalSame.j0 k a0 a1 l2 l3 t319 true)))) = some r := H
 have A5 := Ax.mk A50
 clear A50
 replace H := Option.bind_eq_some_iff.mp H
 obtain ⟨t320, A60, H⟩ := H
 replace H : ((l13_short.f k l3).bind fun t321 => (if t319 = true then (if t320 = true then (l13_JournalSame.j0 k a0 a1 l2 l3 t319 (!t321)) else (l13_JournalSame.j0 k a0 a1 l2 l3 t319 true)) else (l13_JournalSame.j0 k a0 a1 l2 l3 t319 true))) = some r := H
 have A6 := Ax.mk A60
 clear A60
 replace H := Option.bind_eq_some_iff.mp H
 obtain ⟨t321, A70, H⟩ := H
 replace H : (if t319 = true then (if t320 = true then (l13_JournalSame.j0 k a0 a1 l2 l3 t319 (!t321)) else (l13_JournalSame.j0 k a0 a1 l2 l3 t319 true)) else (l13_JournalSame.j0 k a0 a1 l2 l3 t319 true)) = some r := H
 have A7 := Ax.mk A70
 clear A70
 have HC8 := Ax.mk H
 clear H
 go_enter Tryd.func12, Tryd.ntmps12
 go_upto_region 4 with (first | ((with_reducible refine gate_callee (f := 31) rfl ?_); refine goesL_ (some 18) rfl rfl Tryd.func31 (by kernel_rfl) rfl #[] rfl (by (try simp only [List.map_toArray, List.map_cons, List.map_nil]); first | done | rfl | (simp only [List.length_drop, List.length_take]; rfl) | (rw [wrap_sum2 (by assumption)]; rfl)) ?_; (with_reducible refine (l13_shown.calls k  t319 _ A5.out (HT.below bA)).mono ?_); rintro e w9 ⟨rfl, hb⟩; refine ⟨_, rfl, ?_⟩; have n0_ := Ax.mk (bP bA hb); clear HB; have HB := n0_; clear n0_; (try clear hb); (try clear hb2); (try clear hk); (try clear hi)) | ((with_reducible refine gate_callee (f := 33) rfl ?_); refine goesL_ (some 20) rfl rfl Tryd.func33 (by kernel_rfl) rfl #[.slice A2 l2.length c2] rfl (by (try simp only [List.map_toArray, List.map_cons, List.map_nil]); first | done | rfl | (simp only [List.length_drop, List.length_take]; rfl) | (rw [wrap_sum2 (by assumption)]; rfl)) ?_; (with_reducible refine (l13_short.calls k _ _ l2 t320 _ ?side1 ?side2 A6.out).mono ?_); (case side1 => repeat (first | exact (Kd.C_below HR2.out HB.out) | (with_reducible refine Kd.C_alloc ?_ _) | (with_reducible refine Kd.C_drewN ?_ _) | (with_reducible refine Kd.C_drew ?_))); (case side2 => exact HC2.out); rintro e w' ⟨rfl, ⟨nd, rfl⟩⟩; refine ⟨_, rfl, ?_⟩) | ((with_reducible refine gate_callee (f := 33) rfl ?_); refine goesL_ (some 22) rfl rfl Tryd.func33 (by kernel_rfl) rfl #[.slice A3 l3.length c3] rfl (by (try simp only [List.map_toArray, List.map_cons, List.map_nil]); first | done | rfl | (simp only [List.length_drop, List.length_take]; rfl) | (rw [wrap_sum2 (by assumption)]; rfl)) ?_; (with_reducible refine (l13_short.calls k _ _ l3 t321 _ ?side1 ?side2 A7.out).mono ?_); (case side1 => repeat (first | exact (Kd.C_below HR3.out bA) | (with_reducible refine Kd.C_alloc ?_ _) | (with_reducible refine Kd.C_drewN ?_ _) | (with_reducible refine Kd.C_drew ?_))); (case side2 => exact HC3.out); rintro e w' ⟨rfl, ⟨nd, rfl⟩⟩; refine ⟨_, rfl, ?_⟩))
 (try simp only [Act.put, setIfInBounds_toArray, set_cons_zero, set_cons_succ])
 go_cut [32] (fun v32 wc => ∃ (kq : Nat) (x32_7 : Bool), v32 = .bool x32_7 ∧ Ax (l13_JournalSame.j0 kq a0 a1 l2 l3 t319 x32_7 = some r) ∧ Ax (kq ≤ k) ∧ Ax (Below w.heap.size w wc))
 case first =>
  have H := HC8.out
  clear HC8
  by_cases c10 : t319 = true
  ·subst c10
   have H1 : (if t320 = true then (l13_JournalSame.j0 k a0 a1 l2 l3 true (!t321)) else (l13_JournalSame.j0 k a0 a1 l2 l3 true true)) = some r := by rw [if_pos rfl] at H; exact H
   clear H
   have H := H1
   clear H1
   by_cases c11 : t320 = true
   ·subst c11
    have H1 : (l13_JournalSame.j0 k a0 a1 l2 l3 true (!t321)) = some r := by rw [if_pos rfl] at H; exact H
    clear H
    have H := H1
    clear H1
    have H' := Ax.mk H
    clear H
    go_wp2
    go_meet
    case rel => exact ⟨_, (!t321), (by first | rfl | (simp; done) | (simp [*]; done)), H', ⟨by first | omega | exact Nat.le_refl _⟩, ⟨bA⟩⟩
   ·replace c11 := Bool.eq_false_iff.mpr c11
    subst c11
    have H1 : (l13_JournalSame.j0 k a0 a1 l2 l3 true true) = some r := by rw [if_neg (show ¬ (false = true) by decide)] at H; exact H
    clear H
    have H := H1
    clear H1
    have H' := Ax.mk H
    clear H
    go_wp2
    go_meet
    case rel => exact ⟨_, (true), (by first | rfl | (simp; done) | (simp [*]; done)), H', ⟨by first | omega | exact Nat.le_refl _⟩, ⟨bA⟩⟩
  ·replace c10 := Bool.eq_false_iff.mpr c10
   subst c10
   have H1 : (l13_JournalSame.j0 k a0 a1 l2 l3 false true) = some r := by rw [if_neg (show ¬ (false = true) by decide)] at H; exact H
   clear H
   have H := H1
   clear H1
   have H' := Ax.mk H
   clear H
   go_wp2
   go_meet
   case rel => exact ⟨_, (true), (by first | rfl | (simp; done) | (simp [*]; done)), H', ⟨by first | omega | exact Nat.le_refl _⟩, ⟨bA⟩⟩
 case rest =>
  clear HC8
  try clear c1
  try clear c2
  try clear p2
  try clear c3
  try clear c10
  try clear c11
  obtain ⟨kq, x32_7, rfl, HA, HJ7, HB⟩ := hcut
  cases kq with
  | zero => exact absurd HA.out (by simp [l13_JournalSame.j0])
  | succ kj7 =>
   have H := HA.out
   clear HA
   simp only [l13_JournalSame.j0] at H
   by_cases c12 : x32_7 = true
   ·subst c12
    have H1 : (some t319) = some r := by rw [if_pos rfl] at H; exact H
    clear H
    have H := H1
    clear H1
    obtain rfl := Option.some.inj H
    go_wp2
    go_ret
    exact ⟨by first | rfl | (simp [errW_none, errW_some] <;> rfl) | (simp [*, errW_none, errW_some] <;> rfl), bA⟩
   ·replace c12 := Bool.eq_false_iff.mpr c12
    subst c12
    have H1 : ((l13_built.f kj7 a0 ([] : List (S24)) l2).bind fun bt322 => ((l13_built.f kj7 a1 ([] : List (S24)) l3).bind fun bt335 => (if bt322.2.2.2.2.2.2 = true then (if bt335.2.2.2.2.2.2 = true then ((l13_same.f kj7 bt322.1 bt322.2.1 bt322.2.2.1 bt335.2.2.2.1 bt335.2.2.2.2.1 bt335.2.2.2.2.2.1).bind fun t348 => (if ((bt322.2.2.1.toList == bt335.2.2.1.toList) == t348) = true then (some ((bt322.2.2.2.2.2.1.size : Int) == (bt322.2.2.1.size : Int))) else (none))) else (none)) else (none)))) = some r := by rw [if_neg (show ¬ (false = true) by decide)] at H; exact H
    clear H
    have H := H1
    clear H1
    replace H := Option.bind_eq_some_iff.mp H
    obtain ⟨⟨t322, t323, t326, t327, t328, t331, t332⟩, A130, H⟩ := H
    replace H : ((l13_built.f kj7 a1 ([] : List (S24)) l3).bind fun bt335 => (if t332 = true then (if bt335.2.2.2.2.2.2 = true then ((l13_same.f kj7 t322 t323 t326 bt335.2.2.2.1 bt335.2.2.2.2.1 bt335.2.2.2.2.2.1).bind fun t348 => (if ((t326.toList == bt335.2.2.1.toList) == t348) = true then (some ((t331.size : Int) == (t326.size : Int))) else (none))) else (none)) else (none))) = some r := H
    have A13 := Ax.mk A130
    clear A130
    replace H := Option.bind_eq_some_iff.mp H
    obtain ⟨⟨t335, t336, t339, t340, t341, t344, t345⟩, A140, H⟩ := H
    replace H : (if t332 = true then (if t345 = true then ((l13_same.f kj7 t322 t323 t326 t340 t341 t344).bind fun t348 => (if ((t326.toList == t339.toList) == t348) = true then (some ((t331.size : Int) == (t326.size : Int))) else (none))) else (none)) else (none)) = some r := H
    have A14 := Ax.mk A140
    clear A140
    by_cases c15 : t332 = true
    ·subst c15
     have H1 : (if t345 = true then ((l13_same.f kj7 t322 t323 t326 t340 t341 t344).bind fun t348 => (if ((t326.toList == t339.toList) == t348) = true then (some ((t331.size : Int) == (t326.size : Int))) else (none))) else (none)) = some r := by rw [if_pos rfl] at H; exact H
     clear H
     have H := H1
     clear H1
     by_cases c16 : t345 = true
     ·subst c16
      have H1 : ((l13_same.f kj7 t322 t323 t326 t340 t341 t344).bind fun t348 => (if ((t326.toList == t339.toList) == t348) = true then (some ((t331.size : Int) == (t326.size : Int))) else (none))) = some r := by rw [if_pos rfl] at H; exact H
      clear H
      have H := H1
      clear H1
      replace H := Option.bind_eq_some_iff.mp H
      obtain ⟨t348, A170, H⟩ := H
      replace H : (if ((t326.toList == t339.toList) == t348) = true then (some ((t331.size : Int) == (t326.size : Int))) else (none)) = some r := H
      have A17 := Ax.mk A170
      clear A170
      by_cases c18 : ((t326.toList == t339.toList) == t348) = true
      ·rw [if_pos c18] at H
       have c18b0 : ((t326.toList == t339.toList) == t348) = true := c18
       (try (have c18b1 : decide ((t326.toList == t339.toList) = t348) = true := by simpa using c18))
       (try (have c18b2 : ((t326.toList == t339.toList) == t348) = true := by simpa using c18))
       clear c18
       obtain rfl := Option.some.inj H
       try go_wp2_with (first | ((with_reducible refine gate_callee (f := 34) rfl ?_); refine goesL_ (some 37) rfl rfl Tryd.func34 (by kernel_rfl) rfl #[.int .u64 a0, .slice none 0 0, .slice A2 l2.length c2] rfl (by (try simp only [List.map_toArray, List.map_cons, List.map_nil]); first | done | rfl | (simp only [List.length_drop, List.length_take]; rfl) | (rw [wrap_sum2 (by assumption)]; rfl)) ?_; (refine (l13_built.calls kj7 a0 _ _ ([] : List (S24)) _ _ l2 t322 t323 t326 t327 t328 t331 true _ ?side1 ?side2 ?side3 ?side4 A13.out (HT.below bA)).mono ?_); (case side1 => exact Kd.C_nil _ _); (case side2 => exact Nat.le_refl _); (case side3 => repeat (first | exact (Kd.C_below HR2.out HB.out) | (with_reducible refine Kd.C_alloc ?_ _) | (with_reducible refine Kd.C_drewN ?_ _) | (with_reducible refine Kd.C_drew ?_))); (case side4 => exact HC2.out); rintro e w19 ⟨v324, v329, rfl, ho0, ho1, hb⟩; refine ⟨_, rfl, ?_⟩; have n0_ := Ax.mk (Kd.N_lower (Kd.N_mono (ok' := fun k_ => some k_ ≠ (v329 : Value).ownBlock) ho0 (fun k_ hk_ => hk_.2)) (bS bA)); have n1_ := Ax.mk (Kd.N_lower (Kd.N_mono (ok' := fun k_ => some k_ ≠ (v324 : Value).ownBlock) ho1 (fun k_ hk_ => hk_.2)) (bS bA)); have n2_ := Ax.mk (bP bA hb); clear HB; have HO325 := n0_; have HO330 := n1_; have HB := n2_; clear n0_ n1_ n2_; (try clear hb); (try clear hb2); (try clear hk); (try clear hi); (try clear ho0); (try clear ho1)) | ((with_reducible refine gate_dst (N := 12) rfl ?_); (try (refine gate_guard (by rfl) ?_; dsimp only)); refine box_event ?hg (N := 12) ?hd (cs := #[.int .u64 0, .slice none 0 0, .string (⟨#[]⟩ : ByteArray)]) (t := 66) ?hr ?_; (case hd => rfl); (case hg => rfl); (case hr => first | (go_simp; done) | (go_simp; rfl)); intro gb333 hg w20 hbox hb; have n0_ := Ax.mk (Kd.N_below (Kd.N_elderB (by exact Kd.N_to HO325.out) gb333 (Nat.le_of_eq hg.symm)) hb); have n1_ := Ax.mk (Kd.N_below (Kd.N_elderB (by exact Kd.N_to HO330.out) gb333 (Nat.le_of_eq hg.symm)) hb); have n2_ := Ax.mk (bP bA hb); have n3_ := Ax.mk (hbox); have n4_ := Ax.mk ((ge_new hg : w.heap.size ≤ gb333)); have n5_ := n4_; clear HO325; clear HO330; clear HB; have HO325 := n0_; have HO330 := n1_; have HB := n2_; have BK333 := n3_; have GW333 := n4_; have GE333 := n5_; clear n0_ n1_ n2_ n3_ n4_ n5_; clear hb hbox hg) | ((with_reducible refine gate_dst (N := 13) rfl ?_); (try (refine gate_guard (by rfl) ?_; dsimp only)); refine box_event ?hg (N := 13) ?hd (cs := #[.int .u64 0, .slice none 0 0, .string (⟨#[]⟩ : ByteArray)]) (t := 68) ?hr ?_; (case hd => rfl); (case hg => rfl); (case hr => first | (go_simp; done) | (go_simp; rfl)); intro gb334 hg w21 hbox hb; have n0_ := Ax.mk (Kd.N_below (Kd.N_elderB (by exact Kd.N_to HO325.out) gb334 (Nat.le_of_eq hg.symm)) hb); have n1_ := Ax.mk (Kd.N_below (Kd.N_elderB (by exact Kd.N_to HO330.out) gb334 (Nat.le_of_eq hg.symm)) hb); have n2_ := Ax.mk (bB (bT BK333.out) hb); have n3_ := Ax.mk (bP bA hb); have n4_ := Ax.mk (hbox); have n5_ := Ax.mk ((ge_new hg : w.heap.size ≤ gb334)); have n6_ := n5_; have n7_ := Ax.mk ((ne_lt hg BK333.out : gb333 ≠ gb334)); have n8_ := Ax.mk ((ne_gt hg BK333.out : gb334 ≠ gb333)); clear HO325; clear HO330; clear BK333; clear HB; have HO325 := n0_; have HO330 := n1_; have BK333 := n2_; have HB := n3_; have BK334 := n4_; have GW334 := n5_; have GE334 := n6_; have NB333_334 := n7_; have NB334_333 := n8_; clear n0_ n1_ n2_ n3_ n4_ n5_ n6_ n7_ n8_; clear hb hbox hg; have hnb22 := NB333_334.out; have hnc22 := NB334_333.out; have hcz23_0 : w21.cell? ⟨gb333, 0, none⟩ = some (.int .u64 0) := (bC BK333.out 0).trans rfl; have hcz23_1 : w21.cell? ⟨gb333, 1, none⟩ = some (.slice none 0 0) := (bC BK333.out 1).trans rfl; have hcz23_2 : w21.cell? ⟨gb333, 2, none⟩ = some (.string (⟨#[]⟩ : ByteArray)) := (bC BK333.out 2).trans rfl; have hfz23_0 := bF BK333.out 0; have hfz23_1 := bF BK333.out 1; have hfz23_2 := bF BK333.out 2; obtain ⟨Ao24, co24, eo24⟩ := Kd.N_slice HO325.out; subst eo24; have hcz25_0 : w21.cell? ⟨gb334, 0, none⟩ = some (.int .u64 0) := (bC BK334.out 0).trans rfl; have hcz25_1 : w21.cell? ⟨gb334, 1, none⟩ = some (.slice none 0 0) := (bC BK334.out 1).trans rfl; have hcz25_2 : w21.cell? ⟨gb334, 2, none⟩ = some (.string (⟨#[]⟩ : ByteArray)) := (bC BK334.out 2).trans rfl; have hfz25_0 := bF BK334.out 0; have hfz25_1 := bF BK334.out 1; have hfz25_2 := bF BK334.out 2; obtain ⟨Ao26, co26, eo26⟩ := Kd.N_slice HO330.out; subst eo26) | ((with_reducible refine gate_callee (f := 34) rfl ?_); refine goesL_ (some 44) rfl rfl Tryd.func34 (by kernel_rfl) rfl #[.int .u64 a1, .slice none 0 0, .slice A3 l3.length c3] rfl (by (try simp only [List.map_toArray, List.map_cons, List.map_nil]); first | done | rfl | (simp only [List.length_drop, List.length_take]; rfl) | (rw [wrap_sum2 (by assumption)]; rfl)) ?_; (refine (l13_built.calls kj7 a1 _ _ ([] : List (S24)) _ _ l3 t335 t336 t339 t340 t341 t344 true _ ?side1 ?side2 ?side3 ?side4 A14.out (HT.below bA)).mono ?_); (case side1 => exact Kd.C_nil _ _); (case side2 => exact Nat.le_refl _); (case side3 => exact Kd.C_below HR3.out bA); (case side4 => exact HC3.out); rintro e w27 ⟨v337, v342, rfl, ho0, ho1, hb⟩; refine ⟨_, rfl, ?_⟩; have n0_ := Ax.mk (Kd.N_mono (Kd.N_told (Kd.N_told (Kd.N_old (by apply Kd.N_to; exact (Kd.N_mono (Kd.N_mono (Kd.N_far (p := ⟨gb334, 2, none⟩) (Kd.N_far (p := ⟨gb334, 1, none⟩) (Kd.N_far (p := ⟨gb334, 0, none⟩) (Kd.N_far (p := ⟨gb333, 2, none⟩) (Kd.N_far (p := ⟨gb333, 1, none⟩) (Kd.N_far (p := ⟨gb333, 0, none⟩) (Kd.N_mono (Kd.N_mono HO325.out (fun k_ hk => (⟨hk, hk.1.2⟩ : _ ∧ k_ ≠ gb333))) (fun k_ hk => (⟨hk, hk.1.2⟩ : _ ∧ k_ ≠ gb334))) (fun _ hk => hk.1.2) (.int .u64 t322)) (fun _ hk => hk.1.2) (.slice Ao24 t323.length co24)) (fun _ hk => hk.1.2) (.string t326)) (fun _ hk => hk.2) (.int .u64 t327)) (fun _ hk => hk.2) (.slice Ao26 t328.length co26)) (fun _ hk => hk.2) (.string t331)) (fun _ h_ => h_.1)) (fun _ h_ => h_.1))) hb) (Kd.N_base ho0)) (Kd.N_base ho1)) (fun _ h_ => h_.1)); have n1_ := Ax.mk (Kd.N_mono (Kd.N_told (Kd.N_told (Kd.N_old (by apply Kd.N_to; exact (Kd.N_mono (Kd.N_mono (Kd.N_far (p := ⟨gb334, 2, none⟩) (Kd.N_far (p := ⟨gb334, 1, none⟩) (Kd.N_far (p := ⟨gb334, 0, none⟩) (Kd.N_far (p := ⟨gb333, 2, none⟩) (Kd.N_far (p := ⟨gb333, 1, none⟩) (Kd.N_far (p := ⟨gb333, 0, none⟩) (Kd.N_mono (Kd.N_mono HO330.out (fun k_ hk => (⟨hk, hk.1.2⟩ : _ ∧ k_ ≠ gb333))) (fun k_ hk => (⟨hk, hk.1.2⟩ : _ ∧ k_ ≠ gb334))) (fun _ hk => hk.1.2) (.int .u64 t322)) (fun _ hk => hk.1.2) (.slice Ao24 t323.length co24)) (fun _ hk => hk.1.2) (.string t326)) (fun _ hk => hk.2) (.int .u64 t327)) (fun _ hk => hk.2) (.slice Ao26 t328.length co26)) (fun _ hk => hk.2) (.string t331)) (fun _ h_ => h_.1)) (fun _ h_ => h_.1))) hb) (Kd.N_base ho0)) (Kd.N_base ho1)) (fun _ h_ => h_.1)); have n2_ := Ax.mk (Kd.N_lower (Kd.N_mono (ok' := fun k_ => some k_ ≠ (v342 : Value).ownBlock ∧ some k_ ≠ (.slice Ao24 t323.length co24 : Value).ownBlock ∧ some k_ ≠ (.slice Ao26 t328.length co26 : Value).ownBlock ∧ k_ ≠ gb333 ∧ k_ ≠ gb334) ho0 (fun k_ hk_ => ⟨hk_.2, (Kd.fresh' (Kd.N_lt (by apply Kd.N_to; exact (Kd.N_mono (Kd.N_mono (Kd.N_far (p := ⟨gb334, 2, none⟩) (Kd.N_far (p := ⟨gb334, 1, none⟩) (Kd.N_far (p := ⟨gb334, 0, none⟩) (Kd.N_far (p := ⟨gb333, 2, none⟩) (Kd.N_far (p := ⟨gb333, 1, none⟩) (Kd.N_far (p := ⟨gb333, 0, none⟩) (Kd.N_mono (Kd.N_mono HO325.out (fun k_ hk => (⟨hk, hk.1.2⟩ : _ ∧ k_ ≠ gb333))) (fun k_ hk => (⟨hk, hk.1.2⟩ : _ ∧ k_ ≠ gb334))) (fun _ hk => hk.1.2) (.int .u64 t322)) (fun _ hk => hk.1.2) (.slice Ao24 t323.length co24)) (fun _ hk => hk.1.2) (.string t326)) (fun _ hk => hk.2) (.int .u64 t327)) (fun _ hk => hk.2) (.slice Ao26 t328.length co26)) (fun _ hk => hk.2) (.string t331)) (fun _ h_ => h_.1)) (fun _ h_ => h_.1)))) k_ hk_.1), (Kd.fresh' (Kd.N_lt (by apply Kd.N_to; exact (Kd.N_mono (Kd.N_mono (Kd.N_far (p := ⟨gb334, 2, none⟩) (Kd.N_far (p := ⟨gb334, 1, none⟩) (Kd.N_far (p := ⟨gb334, 0, none⟩) (Kd.N_far (p := ⟨gb333, 2, none⟩) (Kd.N_far (p := ⟨gb333, 1, none⟩) (Kd.N_far (p := ⟨gb333, 0, none⟩) (Kd.N_mono (Kd.N_mono HO330.out (fun k_ hk => (⟨hk, hk.1.2⟩ : _ ∧ k_ ≠ gb333))) (fun k_ hk => (⟨hk, hk.1.2⟩ : _ ∧ k_ ≠ gb334))) (fun _ hk => hk.1.2) (.int .u64 t322)) (fun _ hk => hk.1.2) (.slice Ao24 t323.length co24)) (fun _ hk => hk.1.2) (.string t326)) (fun _ hk => hk.2) (.int .u64 t327)) (fun _ hk => hk.2) (.slice Ao26 t328.length co26)) (fun _ hk => hk.2) (.string t331)) (fun _ h_ => h_.1)) (fun _ h_ => h_.1)))) k_ hk_.1), (Kd.freshB (g := gb333) (o := .cells #[.int .u64 t322, .slice Ao24 t323.length co24, .string t326] 66 (0, 0)) (by refine bT ?_; refine bR ?_ NB333_334.out _; refine bT ?_; refine bR ?_ NB333_334.out _; refine bT ?_; refine bR ?_ NB333_334.out _; refine bT ?_; refine bU (cs := #[.int .u64 t322, .slice Ao24 t323.length co24, .string (⟨#[]⟩ : ByteArray)]) ?_ 2 _ rfl; refine bT ?_; refine bU (cs := #[.int .u64 t322, .slice none 0 0, .string (⟨#[]⟩ : ByteArray)]) ?_ 1 _ rfl; refine bT ?_; refine bU (cs := #[.int .u64 0, .slice none 0 0, .string (⟨#[]⟩ : ByteArray)]) ?_ 0 _ rfl; exact bT BK333.out) k_ hk_.1), (Kd.freshB (g := gb334) (o := .cells #[.int .u64 t327, .slice Ao26 t328.length co26, .string t331] 68 (0, 0)) (by refine bT ?_; refine bU (cs := #[.int .u64 t327, .slice Ao26 t328.length co26, .string (⟨#[]⟩ : ByteArray)]) ?_ 2 _ rfl; refine bT ?_; refine bU (cs := #[.int .u64 t327, .slice none 0 0, .string (⟨#[]⟩ : ByteArray)]) ?_ 1 _ rfl; refine bT ?_; refine bU (cs := #[.int .u64 0, .slice none 0 0, .string (⟨#[]⟩ : ByteArray)]) ?_ 0 _ rfl; refine bT ?_; refine bR ?_ NB334_333.out _; refine bT ?_; refine bR ?_ NB334_333.out _; refine bT ?_; refine bR ?_ NB334_333.out _; exact bT BK334.out) k_ hk_.1)⟩)) (bS bA)); have n3_ := Ax.mk (Kd.N_lower (Kd.N_mono (ok' := fun k_ => some k_ ≠ (v337 : Value).ownBlock ∧ some k_ ≠ (.slice Ao24 t323.length co24 : Value).ownBlock ∧ some k_ ≠ (.slice Ao26 t328.length co26 : Value).ownBlock ∧ k_ ≠ gb333 ∧ k_ ≠ gb334) ho1 (fun k_ hk_ => ⟨hk_.2, (Kd.fresh' (Kd.N_lt (by apply Kd.N_to; exact (Kd.N_mono (Kd.N_mono (Kd.N_far (p := ⟨gb334, 2, none⟩) (Kd.N_far (p := ⟨gb334, 1, none⟩) (Kd.N_far (p := ⟨gb334, 0, none⟩) (Kd.N_far (p := ⟨gb333, 2, none⟩) (Kd.N_far (p := ⟨gb333, 1, none⟩) (Kd.N_far (p := ⟨gb333, 0, none⟩) (Kd.N_mono (Kd.N_mono HO325.out (fun k_ hk => (⟨hk, hk.1.2⟩ : _ ∧ k_ ≠ gb333))) (fun k_ hk => (⟨hk, hk.1.2⟩ : _ ∧ k_ ≠ gb334))) (fun _ hk => hk.1.2) (.int .u64 t322)) (fun _ hk => hk.1.2) (.slice Ao24 t323.length co24)) (fun _ hk => hk.1.2) (.string t326)) (fun _ hk => hk.2) (.int .u64 t327)) (fun _ hk => hk.2) (.slice Ao26 t328.length co26)) (fun _ hk => hk.2) (.string t331)) (fun _ h_ => h_.1)) (fun _ h_ => h_.1)))) k_ hk_.1), (Kd.fresh' (Kd.N_lt (by apply Kd.N_to; exact (Kd.N_mono (Kd.N_mono (Kd.N_far (p := ⟨gb334, 2, none⟩) (Kd.N_far (p := ⟨gb334, 1, none⟩) (Kd.N_far (p := ⟨gb334, 0, none⟩) (Kd.N_far (p := ⟨gb333, 2, none⟩) (Kd.N_far (p := ⟨gb333, 1, none⟩) (Kd.N_far (p := ⟨gb333, 0, none⟩) (Kd.N_mono (Kd.N_mono HO330.out (fun k_ hk => (⟨hk, hk.1.2⟩ : _ ∧ k_ ≠ gb333))) (fun k_ hk => (⟨hk, hk.1.2⟩ : _ ∧ k_ ≠ gb334))) (fun _ hk => hk.1.2) (.int .u64 t322)) (fun _ hk => hk.1.2) (.slice Ao24 t323.length co24)) (fun _ hk => hk.1.2) (.string t326)) (fun _ hk => hk.2) (.int .u64 t327)) (fun _ hk => hk.2) (.slice Ao26 t328.length co26)) (fun _ hk => hk.2) (.string t331)) (fun _ h_ => h_.1)) (fun _ h_ => h_.1)))) k_ hk_.1), (Kd.freshB (g := gb333) (o := .cells #[.int .u64 t322, .slice Ao24 t323.length co24, .string t326] 66 (0, 0)) (by refine bT ?_; refine bR ?_ NB333_334.out _; refine bT ?_; refine bR ?_ NB333_334.out _; refine bT ?_; refine bR ?_ NB333_334.out _; refine bT ?_; refine bU (cs := #[.int .u64 t322, .slice Ao24 t323.length co24, .string (⟨#[]⟩ : ByteArray)]) ?_ 2 _ rfl; refine bT ?_; refine bU (cs := #[.int .u64 t322, .slice none 0 0, .string (⟨#[]⟩ : ByteArray)]) ?_ 1 _ rfl; refine bT ?_; refine bU (cs := #[.int .u64 0, .slice none 0 0, .string (⟨#[]⟩ : ByteArray)]) ?_ 0 _ rfl; exact bT BK333.out) k_ hk_.1), (Kd.freshB (g := gb334) (o := .cells #[.int .u64 t327, .slice Ao26 t328.length co26, .string t331] 68 (0, 0)) (by refine bT ?_; refine bU (cs := #[.int .u64 t327, .slice Ao26 t328.length co26, .string (⟨#[]⟩ : ByteArray)]) ?_ 2 _ rfl; refine bT ?_; refine bU (cs := #[.int .u64 t327, .slice none 0 0, .string (⟨#[]⟩ : ByteArray)]) ?_ 1 _ rfl; refine bT ?_; refine bU (cs := #[.int .u64 0, .slice none 0 0, .string (⟨#[]⟩ : ByteArray)]) ?_ 0 _ rfl; refine bT ?_; refine bR ?_ NB334_333.out _; refine bT ?_; refine bR ?_ NB334_333.out _; refine bT ?_; refine bR ?_ NB334_333.out _; exact bT BK334.out) k_ hk_.1)⟩)) (bS bA)); have n4_ := Ax.mk (bB (g := gb333) (o := .cells #[.int .u64 t322, .slice Ao24 t323.length co24, .string t326] 66 (0, 0)) (by refine bT ?_; refine bR ?_ NB333_334.out _; refine bT ?_; refine bR ?_ NB333_334.out _; refine bT ?_; refine bR ?_ NB333_334.out _; refine bT ?_; refine bU (cs := #[.int .u64 t322, .slice Ao24 t323.length co24, .string (⟨#[]⟩ : ByteArray)]) ?_ 2 _ rfl; refine bT ?_; refine bU (cs := #[.int .u64 t322, .slice none 0 0, .string (⟨#[]⟩ : ByteArray)]) ?_ 1 _ rfl; refine bT ?_; refine bU (cs := #[.int .u64 0, .slice none 0 0, .string (⟨#[]⟩ : ByteArray)]) ?_ 0 _ rfl; exact bT BK333.out) hb); have n5_ := Ax.mk (bB (g := gb334) (o := .cells #[.int .u64 t327, .slice Ao26 t328.length co26, .string t331] 68 (0, 0)) (by refine bT ?_; refine bU (cs := #[.int .u64 t327, .slice Ao26 t328.length co26, .string (⟨#[]⟩ : ByteArray)]) ?_ 2 _ rfl; refine bT ?_; refine bU (cs := #[.int .u64 t327, .slice none 0 0, .string (⟨#[]⟩ : ByteArray)]) ?_ 1 _ rfl; refine bT ?_; refine bU (cs := #[.int .u64 0, .slice none 0 0, .string (⟨#[]⟩ : ByteArray)]) ?_ 0 _ rfl; refine bT ?_; refine bR ?_ NB334_333.out _; refine bT ?_; refine bR ?_ NB334_333.out _; refine bT ?_; refine bR ?_ NB334_333.out _; exact bT BK334.out) hb); have n6_ := Ax.mk (bP bA hb); clear HO325; clear HO330; clear BK333; clear BK334; clear HB; have HO325 := n0_; have HO330 := n1_; have HO338 := n2_; have HO343 := n3_; have BK333 := n4_; have BK334 := n5_; have HB := n6_; clear n0_ n1_ n2_ n3_ n4_ n5_ n6_; (try clear hb); (try clear hb2); (try clear hk); (try clear hi); (try clear ho0); (try clear ho1)) | ((with_reducible refine gate_dst (N := 15) rfl ?_); (try (refine gate_guard (by rfl) ?_; dsimp only)); refine box_event ?hg (N := 15) ?hd (cs := #[.int .u64 0, .slice none 0 0, .string (⟨#[]⟩ : ByteArray)]) (t := 66) ?hr ?_; (case hd => rfl); (case hg => rfl); (case hr => first | (go_simp; done) | (go_simp; rfl)); intro gb346 hg w28 hbox hb; have n0_ := Ax.mk (Kd.N_below (Kd.N_elderB (by exact Kd.N_to HO325.out) gb346 (Nat.le_of_eq hg.symm)) hb); have n1_ := Ax.mk (Kd.N_below (Kd.N_elderB (by exact Kd.N_to HO330.out) gb346 (Nat.le_of_eq hg.symm)) hb); have n2_ := Ax.mk (Kd.N_below (Kd.N_elderB (by exact Kd.N_to HO338.out) gb346 (Nat.le_of_eq hg.symm)) hb); have n3_ := Ax.mk (Kd.N_below (Kd.N_elderB (by exact Kd.N_to HO343.out) gb346 (Nat.le_of_eq hg.symm)) hb); have n4_ := Ax.mk (bB (bT BK333.out) hb); have n5_ := Ax.mk (bB (bT BK334.out) hb); have n6_ := Ax.mk (bP bA hb); have n7_ := Ax.mk (hbox); have n8_ := Ax.mk ((ge_new hg : w.heap.size ≤ gb346)); have n9_ := n8_; have n10_ := Ax.mk ((ne_lt hg BK333.out : gb333 ≠ gb346)); have n11_ := Ax.mk ((ne_gt hg BK333.out : gb346 ≠ gb333)); have n12_ := Ax.mk ((ne_lt hg BK334.out : gb334 ≠ gb346)); have n13_ := Ax.mk ((ne_gt hg BK334.out : gb346 ≠ gb334)); clear HO325; clear HO330; clear HO338; clear HO343; clear BK333; clear BK334; clear HB; have HO325 := n0_; have HO330 := n1_; have HO338 := n2_; have HO343 := n3_; have BK333 := n4_; have BK334 := n5_; have HB := n6_; have BK346 := n7_; have GW346 := n8_; have GE346 := n9_; have NB333_346 := n10_; have NB346_333 := n11_; have NB334_346 := n12_; have NB346_334 := n13_; clear n0_ n1_ n2_ n3_ n4_ n5_ n6_ n7_ n8_ n9_ n10_ n11_ n12_ n13_; clear hb hbox hg) | ((with_reducible refine gate_dst (N := 16) rfl ?_); (try (refine gate_guard (by rfl) ?_; dsimp only)); refine box_event ?hg (N := 16) ?hd (cs := #[.int .u64 0, .slice none 0 0, .string (⟨#[]⟩ : ByteArray)]) (t := 68) ?hr ?_; (case hd => rfl); (case hg => rfl); (case hr => first | (go_simp; done) | (go_simp; rfl)); intro gb347 hg w29 hbox hb; have n0_ := Ax.mk (Kd.N_below (Kd.N_elderB (by exact Kd.N_to HO325.out) gb347 (Nat.le_of_eq hg.symm)) hb); have n1_ := Ax.mk (Kd.N_below (Kd.N_elderB (by exact Kd.N_to HO330.out) gb347 (Nat.le_of_eq hg.symm)) hb); have n2_ := Ax.mk (Kd.N_below (Kd.N_elderB (by exact Kd.N_to HO338.out) gb347 (Nat.le_of_eq hg.symm)) hb); have n3_ := Ax.mk (Kd.N_below (Kd.N_elderB (by exact Kd.N_to HO343.out) gb347 (Nat.le_of_eq hg.symm)) hb); have n4_ := Ax.mk (bB (bT BK333.out) hb); have n5_ := Ax.mk (bB (bT BK334.out) hb); have n6_ := Ax.mk (bB (bT BK346.out) hb); have n7_ := Ax.mk (bP bA hb); have n8_ := Ax.mk (hbox); have n9_ := Ax.mk ((ge_new hg : w.heap.size ≤ gb347)); have n10_ := n9_; have n11_ := Ax.mk ((ne_lt hg BK333.out : gb333 ≠ gb347)); have n12_ := Ax.mk ((ne_gt hg BK333.out : gb347 ≠ gb333)); have n13_ := Ax.mk ((ne_lt hg BK334.out : gb334 ≠ gb347)); have n14_ := Ax.mk ((ne_gt hg BK334.out : gb347 ≠ gb334)); have n15_ := Ax.mk ((ne_lt hg BK346.out : gb346 ≠ gb347)); have n16_ := Ax.mk ((ne_gt hg BK346.out : gb347 ≠ gb346)); clear HO325; clear HO330; clear HO338; clear HO343; clear BK333; clear BK334; clear BK346; clear HB; have HO325 := n0_; have HO330 := n1_; have HO338 := n2_; have HO343 := n3_; have BK333 := n4_; have BK334 := n5_; have BK346 := n6_; have HB := n7_; have BK347 := n8_; have GW347 := n9_; have GE347 := n10_; have NB333_347 := n11_; have NB347_333 := n12_; have NB334_347 := n13_; have NB347_334 := n14_; have NB346_347 := n15_; have NB347_346 := n16_; clear n0_ n1_ n2_ n3_ n4_ n5_ n6_ n7_ n8_ n9_ n10_ n11_ n12_ n13_ n14_ n15_ n16_; clear hb hbox hg; have hnb30 := NB346_333.out; have hnc30 := NB333_346.out; have hnb31 := NB346_334.out; have hnc31 := NB334_346.out; have hnb32 := NB346_347.out; have hnc32 := NB347_346.out; have hcz33_0 : w29.cell? ⟨gb346, 0, none⟩ = some (.int .u64 0) := (bC BK346.out 0).trans rfl; have hcz33_1 : w29.cell? ⟨gb346, 1, none⟩ = some (.slice none 0 0) := (bC BK346.out 1).trans rfl; have hcz33_2 : w29.cell? ⟨gb346, 2, none⟩ = some (.string (⟨#[]⟩ : ByteArray)) := (bC BK346.out 2).trans rfl; have hfz33_0 := bF BK346.out 0; have hfz33_1 := bF BK346.out 1; have hfz33_2 := bF BK346.out 2; obtain ⟨Ao34, co34, eo34⟩ := Kd.N_slice HO338.out; subst eo34; have hnb35 := NB347_333.out; have hnc35 := NB333_347.out; have hnb36 := NB347_334.out; have hnc36 := NB334_347.out; have hcz37_0 : w29.cell? ⟨gb347, 0, none⟩ = some (.int .u64 0) := (bC BK347.out 0).trans rfl; have hcz37_1 : w29.cell? ⟨gb347, 1, none⟩ = some (.slice none 0 0) := (bC BK347.out 1).trans rfl; have hcz37_2 : w29.cell? ⟨gb347, 2, none⟩ = some (.string (⟨#[]⟩ : ByteArray)) := (bC BK347.out 2).trans rfl; have hfz37_0 := bF BK347.out 0; have hfz37_1 := bF BK347.out 1; have hfz37_2 := bF BK347.out 2; obtain ⟨Ao38, co38, eo38⟩ := Kd.N_slice HO343.out; subst eo38))
       have n0_ : Ax (Kd.N k44 44 ((((((w29.setCell ⟨gb346, 0, none⟩ (.int .u64 t335)).setCell ⟨gb346, 1, none⟩ (.slice Ao34 t336.length co34)).setCell ⟨gb346, 2, none⟩ (.string t339)).setCell ⟨gb347, 0, none⟩ (.int .u64 t340)).setCell ⟨gb347, 1, none⟩ (.slice Ao38 t341.length co38)).setCell ⟨gb347, 2, none⟩ (.string t344)) w.heap.size (fun k_ => some k_ ≠ (.slice Ao26 t328.length co26 : Value).ownBlock ∧ some k_ ≠ (.slice Ao34 t336.length co34 : Value).ownBlock ∧ some k_ ≠ (.slice Ao38 t341.length co38 : Value).ownBlock ∧ k_ ≠ gb333 ∧ k_ ≠ gb334 ∧ k_ ≠ gb346 ∧ k_ ≠ gb347) (.slice Ao24 t323.length co24) t323) := ⟨by apply Kd.N_to; exact Kd.N_mono (Kd.N_far (p := ⟨gb347, 2, none⟩) (Kd.N_far (p := ⟨gb347, 1, none⟩) (Kd.N_far (p := ⟨gb347, 0, none⟩) (Kd.N_far (p := ⟨gb346, 2, none⟩) (Kd.N_far (p := ⟨gb346, 1, none⟩) (Kd.N_far (p := ⟨gb346, 0, none⟩) (Kd.N_mono (Kd.N_mono HO325.out (fun k_ hk => (⟨hk, hk.1.2⟩ : _ ∧ k_ ≠ gb346))) (fun k_ hk => (⟨hk, hk.1.2⟩ : _ ∧ k_ ≠ gb347))) (fun _ hk => hk.1.2) (.int .u64 t335)) (fun _ hk => hk.1.2) (.slice Ao34 t336.length co34)) (fun _ hk => hk.1.2) (.string t339)) (fun _ hk => hk.2) (.int .u64 t340)) (fun _ hk => hk.2) (.slice Ao38 t341.length co38)) (fun _ hk => hk.2) (.string t344)) (fun _ hk => ⟨hk.1.1.1.1.1.1.1.1, ⟨hk.1.1.1.1.1.2, ⟨hk.1.1.1.1.2, ⟨hk.1.1.1.1.1.1.1.2, ⟨hk.1.1.1.1.1.1.2, ⟨hk.1.1.1.2, hk.1.1.2⟩⟩⟩⟩⟩⟩)⟩
       have n1_ : Ax (Kd.N k46 46 ((((((w29.setCell ⟨gb346, 0, none⟩ (.int .u64 t335)).setCell ⟨gb346, 1, none⟩ (.slice Ao34 t336.length co34)).setCell ⟨gb346, 2, none⟩ (.string t339)).setCell ⟨gb347, 0, none⟩ (.int .u64 t340)).setCell ⟨gb347, 1, none⟩ (.slice Ao38 t341.length co38)).setCell ⟨gb347, 2, none⟩ (.string t344)) w.heap.size (fun k_ => some k_ ≠ (.slice Ao24 t323.length co24 : Value).ownBlock ∧ some k_ ≠ (.slice Ao34 t336.length co34 : Value).ownBlock ∧ some k_ ≠ (.slice Ao38 t341.length co38 : Value).ownBlock ∧ k_ ≠ gb333 ∧ k_ ≠ gb334 ∧ k_ ≠ gb346 ∧ k_ ≠ gb347) (.slice Ao26 t328.length co26) t328) := ⟨by apply Kd.N_to; exact Kd.N_mono (Kd.N_far (p := ⟨gb347, 2, none⟩) (Kd.N_far (p := ⟨gb347, 1, none⟩) (Kd.N_far (p := ⟨gb347, 0, none⟩) (Kd.N_far (p := ⟨gb346, 2, none⟩) (Kd.N_far (p := ⟨gb346, 1, none⟩) (Kd.N_far (p := ⟨gb346, 0, none⟩) (Kd.N_mono (Kd.N_mono HO330.out (fun k_ hk => (⟨hk, hk.1.2⟩ : _ ∧ k_ ≠ gb346))) (fun k_ hk => (⟨hk, hk.1.2⟩ : _ ∧ k_ ≠ gb347))) (fun _ hk => hk.1.2) (.int .u64 t335)) (fun _ hk => hk.1.2) (.slice Ao34 t336.length co34)) (fun _ hk => hk.1.2) (.string t339)) (fun _ hk => hk.2) (.int .u64 t340)) (fun _ hk => hk.2) (.slice Ao38 t341.length co38)) (fun _ hk => hk.2) (.string t344)) (fun _ hk => ⟨hk.1.1.1.1.1.1.1.1, ⟨hk.1.1.1.1.1.2, ⟨hk.1.1.1.1.2, ⟨hk.1.1.1.1.1.1.1.2, ⟨hk.1.1.1.1.1.1.2, ⟨hk.1.1.1.2, hk.1.1.2⟩⟩⟩⟩⟩⟩)⟩
       have n2_ : Ax (Kd.N k44 44 ((((((w29.setCell ⟨gb346, 0, none⟩ (.int .u64 t335)).setCell ⟨gb346, 1, none⟩ (.slice Ao34 t336.length co34)).setCell ⟨gb346, 2, none⟩ (.string t339)).setCell ⟨gb347, 0, none⟩ (.int .u64 t340)).setCell ⟨gb347, 1, none⟩ (.slice Ao38 t341.length co38)).setCell ⟨gb347, 2, none⟩ (.string t344)) w.heap.size (fun k_ => some k_ ≠ (.slice Ao24 t323.length co24 : Value).ownBlock ∧ some k_ ≠ (.slice Ao26 t328.length co26 : Value).ownBlock ∧ some k_ ≠ (.slice Ao38 t341.length co38 : Value).ownBlock ∧ k_ ≠ gb333 ∧ k_ ≠ gb334 ∧ k_ ≠ gb346 ∧ k_ ≠ gb347) (.slice Ao34 t336.length co34) t336) := ⟨by apply Kd.N_to; exact Kd.N_mono (Kd.N_far (p := ⟨gb347, 2, none⟩) (Kd.N_far (p := ⟨gb347, 1, none⟩) (Kd.N_far (p := ⟨gb347, 0, none⟩) (Kd.N_far (p := ⟨gb346, 2, none⟩) (Kd.N_far (p := ⟨gb346, 1, none⟩) (Kd.N_far (p := ⟨gb346, 0, none⟩) (Kd.N_mono (Kd.N_mono HO338.out (fun k_ hk => (⟨hk, hk.1.2⟩ : _ ∧ k_ ≠ gb346))) (fun k_ hk => (⟨hk, hk.1.2⟩ : _ ∧ k_ ≠ gb347))) (fun _ hk => hk.1.2) (.int .u64 t335)) (fun _ hk => hk.1.2) (.slice Ao34 t336.length co34)) (fun _ hk => hk.1.2) (.string t339)) (fun _ hk => hk.2) (.int .u64 t340)) (fun _ hk => hk.2) (.slice Ao38 t341.length co38)) (fun _ hk => hk.2) (.string t344)) (fun _ hk => ⟨hk.1.1.1.1.2.1, ⟨hk.1.1.1.1.2.2.1, ⟨hk.1.1.1.1.1, ⟨hk.1.1.1.1.2.2.2.1, ⟨hk.1.1.1.1.2.2.2.2, ⟨hk.1.1.1.2, hk.1.1.2⟩⟩⟩⟩⟩⟩)⟩
       have n3_ : Ax (Kd.N k46 46 ((((((w29.setCell ⟨gb346, 0, none⟩ (.int .u64 t335)).setCell ⟨gb346, 1, none⟩ (.slice Ao34 t336.length co34)).setCell ⟨gb346, 2, none⟩ (.string t339)).setCell ⟨gb347, 0, none⟩ (.int .u64 t340)).setCell ⟨gb347, 1, none⟩ (.slice Ao38 t341.length co38)).setCell ⟨gb347, 2, none⟩ (.string t344)) w.heap.size (fun k_ => some k_ ≠ (.slice Ao24 t323.length co24 : Value).ownBlock ∧ some k_ ≠ (.slice Ao26 t328.length co26 : Value).ownBlock ∧ some k_ ≠ (.slice Ao34 t336.length co34 : Value).ownBlock ∧ k_ ≠ gb333 ∧ k_ ≠ gb334 ∧ k_ ≠ gb346 ∧ k_ ≠ gb347) (.slice Ao38 t341.length co38) t341) := ⟨by apply Kd.N_to; exact Kd.N_mono (Kd.N_far (p := ⟨gb347, 2, none⟩) (Kd.N_far (p := ⟨gb347, 1, none⟩) (Kd.N_far (p := ⟨gb347, 0, none⟩) (Kd.N_far (p := ⟨gb346, 2, none⟩) (Kd.N_far (p := ⟨gb346, 1, none⟩) (Kd.N_far (p := ⟨gb346, 0, none⟩) (Kd.N_mono (Kd.N_mono HO343.out (fun k_ hk => (⟨hk, hk.1.2⟩ : _ ∧ k_ ≠ gb346))) (fun k_ hk => (⟨hk, hk.1.2⟩ : _ ∧ k_ ≠ gb347))) (fun _ hk => hk.1.2) (.int .u64 t335)) (fun _ hk => hk.1.2) (.slice Ao34 t336.length co34)) (fun _ hk => hk.1.2) (.string t339)) (fun _ hk => hk.2) (.int .u64 t340)) (fun _ hk => hk.2) (.slice Ao38 t341.length co38)) (fun _ hk => hk.2) (.string t344)) (fun _ hk => ⟨hk.1.1.1.1.2.1, ⟨hk.1.1.1.1.2.2.1, ⟨hk.1.1.1.1.1, ⟨hk.1.1.1.1.2.2.2.1, ⟨hk.1.1.1.1.2.2.2.2, ⟨hk.1.1.1.2, hk.1.1.2⟩⟩⟩⟩⟩⟩)⟩
       have n4_ : Ax (((((((w29.setCell ⟨gb346, 0, none⟩ (.int .u64 t335)).setCell ⟨gb346, 1, none⟩ (.slice Ao34 t336.length co34)).setCell ⟨gb346, 2, none⟩ (.string t339)).setCell ⟨gb347, 0, none⟩ (.int .u64 t340)).setCell ⟨gb347, 1, none⟩ (.slice Ao38 t341.length co38)).setCell ⟨gb347, 2, none⟩ (.string t344)).heap[gb333]? = some (.cells #[.int .u64 t322, .slice Ao24 t323.length co24, .string t326] 66 (0, 0))) := ⟨by refine bT ?_; refine bR ?_ NB333_347.out _; refine bT ?_; refine bR ?_ NB333_347.out _; refine bT ?_; refine bR ?_ NB333_347.out _; refine bT ?_; refine bR ?_ NB333_346.out _; refine bT ?_; refine bR ?_ NB333_346.out _; refine bT ?_; refine bR ?_ NB333_346.out _; refine bT ?_; exact BK333.out⟩
       have n5_ : Ax (((((((w29.setCell ⟨gb346, 0, none⟩ (.int .u64 t335)).setCell ⟨gb346, 1, none⟩ (.slice Ao34 t336.length co34)).setCell ⟨gb346, 2, none⟩ (.string t339)).setCell ⟨gb347, 0, none⟩ (.int .u64 t340)).setCell ⟨gb347, 1, none⟩ (.slice Ao38 t341.length co38)).setCell ⟨gb347, 2, none⟩ (.string t344)).heap[gb334]? = some (.cells #[.int .u64 t327, .slice Ao26 t328.length co26, .string t331] 68 (0, 0))) := ⟨by refine bT ?_; refine bR ?_ NB334_347.out _; refine bT ?_; refine bR ?_ NB334_347.out _; refine bT ?_; refine bR ?_ NB334_347.out _; refine bT ?_; refine bR ?_ NB334_346.out _; refine bT ?_; refine bR ?_ NB334_346.out _; refine bT ?_; refine bR ?_ NB334_346.out _; refine bT ?_; exact BK334.out⟩
       have n6_ : Ax (((((((w29.setCell ⟨gb346, 0, none⟩ (.int .u64 t335)).setCell ⟨gb346, 1, none⟩ (.slice Ao34 t336.length co34)).setCell ⟨gb346, 2, none⟩ (.string t339)).setCell ⟨gb347, 0, none⟩ (.int .u64 t340)).setCell ⟨gb347, 1, none⟩ (.slice Ao38 t341.length co38)).setCell ⟨gb347, 2, none⟩ (.string t344)).heap[gb346]? = some (.cells #[.int .u64 t335, .slice Ao34 t336.length co34, .string t339] 66 (0, 0))) := ⟨by refine bT ?_; refine bR ?_ NB346_347.out _; refine bT ?_; refine bR ?_ NB346_347.out _; refine bT ?_; refine bR ?_ NB346_347.out _; refine bT ?_; refine bU (cs := #[.int .u64 t335, .slice Ao34 t336.length co34, .string (⟨#[]⟩ : ByteArray)]) ?_ 2 _ rfl; refine bT ?_; refine bU (cs := #[.int .u64 t335, .slice none 0 0, .string (⟨#[]⟩ : ByteArray)]) ?_ 1 _ rfl; refine bT ?_; refine bU (cs := #[.int .u64 0, .slice none 0 0, .string (⟨#[]⟩ : ByteArray)]) ?_ 0 _ rfl; refine bT ?_; exact BK346.out⟩
       have n7_ : Ax (((((((w29.setCell ⟨gb346, 0, none⟩ (.int .u64 t335)).setCell ⟨gb346, 1, none⟩ (.slice Ao34 t336.length co34)).setCell ⟨gb346, 2, none⟩ (.string t339)).setCell ⟨gb347, 0, none⟩ (.int .u64 t340)).setCell ⟨gb347, 1, none⟩ (.slice Ao38 t341.length co38)).setCell ⟨gb347, 2, none⟩ (.string t344)).heap[gb347]? = some (.cells #[.int .u64 t340, .slice Ao38 t341.length co38, .string t344] 68 (0, 0))) := ⟨by refine bT ?_; refine bU (cs := #[.int .u64 t340, .slice Ao38 t341.length co38, .string (⟨#[]⟩ : ByteArray)]) ?_ 2 _ rfl; refine bT ?_; refine bU (cs := #[.int .u64 t340, .slice none 0 0, .string (⟨#[]⟩ : ByteArray)]) ?_ 1 _ rfl; refine bT ?_; refine bU (cs := #[.int .u64 0, .slice none 0 0, .string (⟨#[]⟩ : ByteArray)]) ?_ 0 _ rfl; refine bT ?_; refine bR ?_ NB347_346.out _; refine bT ?_; refine bR ?_ NB347_346.out _; refine bT ?_; refine bR ?_ NB347_346.out _; refine bT ?_; exact BK347.out⟩
       have n8_ : Ax (Below w.heap.size w ((((((w29.setCell ⟨gb346, 0, none⟩ (.int .u64 t335)).setCell ⟨gb346, 1, none⟩ (.slice Ao34 t336.length co34)).setCell ⟨gb346, 2, none⟩ (.string t339)).setCell ⟨gb347, 0, none⟩ (.int .u64 t340)).setCell ⟨gb347, 1, none⟩ (.slice Ao38 t341.length co38)).setCell ⟨gb347, 2, none⟩ (.string t344))) := ⟨bA⟩
       (try clear HO325)
       (try clear HO330)
       (try clear HO338)
       (try clear HO343)
       (try clear BK333)
       (try clear BK334)
       (try clear BK346)
       (try clear BK347)
       (try clear HB)
       generalize ((((((w29.setCell ⟨gb346, 0, none⟩ (.int .u64 t335)).setCell ⟨gb346, 1, none⟩ (.slice Ao34 t336.length co34)).setCell ⟨gb346, 2, none⟩ (.string t339)).setCell ⟨gb347, 0, none⟩ (.int .u64 t340)).setCell ⟨gb347, 1, none⟩ (.slice Ao38 t341.length co38)).setCell ⟨gb347, 2, none⟩ (.string t344)) = w39 at n0_ n1_ n2_ n3_ n4_ n5_ n6_ n7_ n8_ ⊢
       have HO325 := n0_
       have HO330 := n1_
       have HO338 := n2_
       have HO343 := n3_
       have BK333 := n4_
       have BK334 := n5_
       have BK346 := n6_
       have BK347 := n7_
       have HB := n8_
       clear n0_ n1_ n2_ n3_ n4_ n5_ n6_ n7_ n8_
       have n0_ := Ax.mk (Kd.N_drew HO325.out)
       have n1_ := Ax.mk (Kd.N_drew HO330.out)
       have n2_ := Ax.mk (Kd.N_drew HO338.out)
       have n3_ := Ax.mk (Kd.N_drew HO343.out)
       have n4_ := Ax.mk (blk_drew BK333.out)
       have n5_ := Ax.mk (blk_drew BK334.out)
       have n6_ := Ax.mk (blk_drew BK346.out)
       have n7_ := Ax.mk (blk_drew BK347.out)
       have n8_ := Ax.mk (below_drew1 HB.out)
       clear HO325
       clear HO330
       clear HO338
       clear HO343
       clear BK333
       clear BK334
       clear BK346
       clear BK347
       clear HB
       have HO325 := n0_
       have HO330 := n1_
       have HO338 := n2_
       have HO343 := n3_
       have BK333 := n4_
       have BK334 := n5_
       have BK346 := n6_
       have BK347 := n7_
       have HB := n8_
       clear n0_ n1_ n2_ n3_ n4_ n5_ n6_ n7_ n8_
       refine start_ (n := 25) (S := fun w' => w'.cell? ⟨gb333, 0, none⟩ = some (.int .u64 t322) ∧ w'.cell? ⟨gb333, 1, none⟩ = some (.slice Ao24 t323.length co24) ∧ w'.cell? ⟨gb333, 2, none⟩ = some (.string t326) ∧ w'.cell? ⟨gb346, 0, none⟩ = some (.int .u64 t335) ∧ w'.cell? ⟨gb346, 1, none⟩ = some (.slice Ao34 t336.length co34) ∧ w'.cell? ⟨gb346, 2, none⟩ = some (.string t339) ∧ w'.cell? ⟨gb347, 0, none⟩ = some (.int .u64 t340) ∧ w'.cell? ⟨gb347, 1, none⟩ = some (.slice Ao38 t341.length co38) ∧ w'.cell? ⟨gb347, 2, none⟩ = some (.string t344) ∧ w'.cell? ⟨gb334, 0, none⟩ = some (.int .u64 t327) ∧ w'.cell? ⟨gb334, 1, none⟩ = some (.slice Ao26 t328.length co26) ∧ w'.cell? ⟨gb334, 2, none⟩ = some (.string t331)) (ds := []) #[false, false, false, false, false, false, false, false, false, false, false, false, false, false, false, false, false, false, false, false, false, false, false, false, false] (by kernel_rfl) rfl rfl ⟨(bC BK333.out 0).trans rfl, (bC BK333.out 1).trans rfl, (bC BK333.out 2).trans rfl, (bC BK346.out 0).trans rfl, (bC BK346.out 1).trans rfl, (bC BK346.out 2).trans rfl, (bC BK347.out 0).trans rfl, (bC BK347.out 1).trans rfl, (bC BK347.out 2).trans rfl, (bC BK334.out 0).trans rfl, (bC BK334.out 1).trans rfl, (bC BK334.out 2).trans rfl⟩ (fun hHeld => ?_); refine with_tabW l13_JournalSame.tab8 l13_JournalSame.bits8 (fun HT_ HW_ => ?_)
       generalize w39.drew = w40 at HO325 HO330 HO338 HO343 BK333 BK334 BK346 BK347 HB hHeld ⊢
       refine pure_ (i := 0) (N := some 48) (v := ?_) (a' := ?_) #[true, false, false, false, false, false, false, false, false, false, false, false, false, false, false, false, false, false, false, false, false, false, false, false, false] rfl rfl (any_of HT_.out (by kernel_rfl)) (fun _ _ _ h => h) (Or.inl ⟨by rfl, ?_⟩) ?_ ?_
       rotate_left
       ·intro w'
        go_simp
        with_reducible rfl
       rotate_left
       ·simp only [Act.put, setIfInBounds_toArray, set_cons_zero, set_cons_succ, i64_w, i32_w]
        rfl
       refine pure_ (i := 1) (N := some 49) (v := ?_) (a' := ?_) #[true, true, false, false, false, false, false, false, false, false, false, false, false, false, false, false, false, false, false, false, false, false, false, false, false] rfl rfl (any_of HT_.out (by kernel_rfl)) (fun _ _ _ h => h) (Or.inl ⟨by rfl, ?_⟩) ?_ ?_
       rotate_left
       ·intro w'
        go_simp
        with_reducible rfl
       rotate_left
       ·simp only [Act.put, setIfInBounds_toArray, set_cons_zero, set_cons_succ, i64_w, i32_w]
        rfl
       refine pure_ (i := 2) (N := some 50) (v := ?_) (a' := ?_) #[true, true, true, false, false, false, false, false, false, false, false, false, false, false, false, false, false, false, false, false, false, false, false, false, false] rfl rfl (any_of HT_.out (by kernel_rfl)) (fun _ _ _ h => h) (Or.inl ⟨by rfl, ?_⟩) ?_ ?_
       rotate_left
       ·intro w'
        go_simp
        with_reducible rfl
       rotate_left
       ·simp only [Act.put, setIfInBounds_toArray, set_cons_zero, set_cons_succ, i64_w, i32_w]
        rfl
       refine pure_ (i := 3) (N := some 51) (v := ?_) (a' := ?_) #[true, true, true, true, false, false, false, false, false, false, false, false, false, false, false, false, false, false, false, false, false, false, false, false, false] rfl rfl (any_of HT_.out (by kernel_rfl)) (fun _ _ _ h => h) (Or.inl ⟨by rfl, ?_⟩) ?_ ?_
       rotate_left
       ·intro w'
        go_simp
        with_reducible rfl
       rotate_left
       ·simp only [Act.put, setIfInBounds_toArray, set_cons_zero, set_cons_succ, i64_w, i32_w]
        rfl
       refine pure_ (i := 4) (N := some 52) (v := ?_) (a' := ?_) #[true, true, true, true, true, false, false, false, false, false, false, false, false, false, false, false, false, false, false, false, false, false, false, false, false] rfl rfl (any_of HT_.out (by kernel_rfl)) (fun _ _ _ h => h) (Or.inl ⟨by rfl, ?_⟩) ?_ ?_
       rotate_left
       ·intro w'
        go_simp
        with_reducible rfl
       rotate_left
       ·simp only [Act.put, setIfInBounds_toArray, set_cons_zero, set_cons_succ, i64_w, i32_w]
        rfl
       refine pure_ (i := 5) (N := some 53) (v := ?_) (a' := ?_) #[true, true, true, true, true, true, false, false, false, false, false, false, false, false, false, false, false, false, false, false, false, false, false, false, false] rfl rfl (any_of HT_.out (by kernel_rfl)) (fun _ _ _ h => h) (Or.inl ⟨by rfl, ?_⟩) ?_ ?_
       rotate_left
       ·intro w'
        go_simp
        with_reducible rfl
       rotate_left
       ·simp only [Act.put, setIfInBounds_toArray, set_cons_zero, set_cons_succ, i64_w, i32_w]
        rfl
       refine pure_ (i := 7) (N := some 55) (v := ?_) (a' := ?_) #[true, true, true, true, true, true, false, true, false, false, false, false, false, false, false, false, false, false, false, false, false, false, false, false, false] rfl rfl (any_of HT_.out (by kernel_rfl)) (fun _ _ _ h => h) (Or.inl ⟨by rfl, ?_⟩) ?_ ?_
       rotate_left
       ·intro w'
        go_simp
        with_reducible rfl
       rotate_left
       ·simp only [Act.put, setIfInBounds_toArray, set_cons_zero, set_cons_succ, i64_w, i32_w]
        rfl
       refine take_ (i := 6) (N := some 54) (v := ?_) (a' := ?_) #[true, true, true, true, true, true, true, true, false, false, false, false, false, false, false, false, false, false, false, false, false, false, false, false, false] rfl rfl (take_ofW HT_.out HW_.out (by kernel_rfl)) (fun _ _ _ h => h) (Or.inl ⟨by rfl, ?_⟩) hHeld ?_ ?_
       rotate_left
       ·rintro w' ⟨s0, s1, s2, s3, s4, s5, s6, s7, s8, s9, s10, s11⟩
        go_simp
        with_reducible rfl
       rotate_left
       ·simp only [Act.put, setIfInBounds_toArray, set_cons_zero, set_cons_succ, i64_w, i32_w]
        rfl
       refine take_ (i := 8) (N := some 56) (v := ?_) (a' := ?_) #[true, true, true, true, true, true, true, true, true, false, false, false, false, false, false, false, false, false, false, false, false, false, false, false, false] rfl rfl (take_ofW HT_.out HW_.out (by kernel_rfl)) (fun _ _ _ h => h) (Or.inl ⟨by rfl, ?_⟩) hHeld ?_ ?_
       rotate_left
       ·rintro w' ⟨s0, s1, s2, s3, s4, s5, s6, s7, s8, s9, s10, s11⟩
        go_simp
        with_reducible rfl
       rotate_left
       ·simp only [Act.put, setIfInBounds_toArray, set_cons_zero, set_cons_succ, i64_w, i32_w]
        rfl
       refine pure_ (i := 9) (N := some 57) (v := ?_) (a' := ?_) #[true, true, true, true, true, true, true, true, true, true, false, false, false, false, false, false, false, false, false, false, false, false, false, false, false] rfl rfl (any_of HT_.out (by kernel_rfl)) (fun _ _ _ h => h) (Or.inl ⟨by rfl, ?_⟩) ?_ ?_
       rotate_left
       ·intro w'
        go_simp
        with_reducible rfl
       rotate_left
       ·simp only [Act.put, setIfInBounds_toArray, set_cons_zero, set_cons_succ, i64_w, i32_w]
        rfl
       refine take_ (i := 10) (N := some 58) (v := ?_) (a' := ?_) #[true, true, true, true, true, true, true, true, true, true, true, false, false, false, false, false, false, false, false, false, false, false, false, false, false] rfl rfl (take_ofW HT_.out HW_.out (by kernel_rfl)) (fun _ _ _ h => h) (Or.inl ⟨by rfl, ?_⟩) hHeld ?_ ?_
       rotate_left
       ·rintro w' ⟨s0, s1, s2, s3, s4, s5, s6, s7, s8, s9, s10, s11⟩
        go_simp
        with_reducible rfl
       rotate_left
       ·simp only [Act.put, setIfInBounds_toArray, set_cons_zero, set_cons_succ, i64_w, i32_w]
        rfl
       refine take_ (i := 11) (N := some 59) (v := ?_) (a' := ?_) #[true, true, true, true, true, true, true, true, true, true, true, true, false, false, false, false, false, false, false, false, false, false, false, false, false] rfl rfl (take_ofW HT_.out HW_.out (by kernel_rfl)) (fun _ _ _ h => h) (Or.inl ⟨by rfl, ?_⟩) hHeld ?_ ?_
       rotate_left
       ·rintro w' ⟨s0, s1, s2, s3, s4, s5, s6, s7, s8, s9, s10, s11⟩
        go_simp
        with_reducible rfl
       rotate_left
       ·simp only [Act.put, setIfInBounds_toArray, set_cons_zero, set_cons_succ, i64_w, i32_w]
        rfl
       refine one_ (i := 12) (N := some 60) #[true, true, true, true, true, true, true, true, true, true, true, true, true, false, false, false, false, false, false, false, false, false, false, false, false] rfl rfl (one_of HT_.out (by kernel_rfl)) (by decide) (fun K hK => ?_)
       refine goes_ Tryd.func41 (by kernel_rfl) rfl #[.agg #[.int .u64 t322, .slice Ao24 t323.length co24, .string t326], .agg #[.int .u64 t340, .slice Ao38 t341.length co38, .string t344]] (by rfl) rfl rfl (by (try simp only [List.map_toArray, List.map_cons, List.map_nil]); first | done | rfl | (simp only [List.length_drop, List.length_take]; rfl) | (rw [wrap_sum2 (by assumption)]; rfl)) ?_
       with_reducible refine (l13_same.calls kj7 t322 _ _ t323 t326 t340 _ _ t341 t344 t348 _ ?side1 ?side2 ?side3 ?side4 A17.out).mono ?_
       (case side1 => repeat (first | exact (Kd.N_reads' HO325.out).2.2 | (with_reducible refine Kd.C_alloc ?_ _) | (with_reducible refine Kd.C_drewN ?_ _) | (with_reducible refine Kd.C_drew ?_)))
       (case side2 => exact (Kd.N_reads' HO325.out).2.1)
       (case side3 => repeat (first | exact (Kd.N_reads' HO343.out).2.2 | (with_reducible refine Kd.C_alloc ?_ _) | (with_reducible refine Kd.C_drewN ?_ _) | (with_reducible refine Kd.C_drew ?_)))
       (case side4 => exact (Kd.N_reads' HO343.out).2.1)
       rintro e w41 ⟨rfl, hb⟩
       refine ⟨_, rfl, ?_⟩
       have n0_ := Ax.mk (Kd.N_below (by exact Kd.N_to HO325.out) hb)
       have n1_ := Ax.mk (Kd.N_below (by exact Kd.N_to HO330.out) hb)
       have n2_ := Ax.mk (Kd.N_below (by exact Kd.N_to HO338.out) hb)
       have n3_ := Ax.mk (Kd.N_below (by exact Kd.N_to HO343.out) hb)
       have n4_ := Ax.mk (bB (bT BK333.out) hb)
       have n5_ := Ax.mk (bB (bT BK334.out) hb)
       have n6_ := Ax.mk (bB (bT BK346.out) hb)
       have n7_ := Ax.mk (bB (bT BK347.out) hb)
       have n8_ := Ax.mk (bP bA hb)
       clear HO325
       clear HO330
       clear HO338
       clear HO343
       clear BK333
       clear BK334
       clear BK346
       clear BK347
       clear HB
       have HO325 := n0_
       have HO330 := n1_
       have HO338 := n2_
       have HO343 := n3_
       have BK333 := n4_
       have BK334 := n5_
       have BK346 := n6_
       have BK347 := n7_
       have HB := n8_
       clear n0_ n1_ n2_ n3_ n4_ n5_ n6_ n7_ n8_
       (try clear hb)
       (try clear hb2)
       (try clear hk)
       (try clear hi)
       refine hK.out _ _ ⟨(bC BK333.out 0).trans rfl, (bC BK333.out 1).trans rfl, (bC BK333.out 2).trans rfl, (bC BK346.out 0).trans rfl, (bC BK346.out 1).trans rfl, (bC BK346.out 2).trans rfl, (bC BK347.out 0).trans rfl, (bC BK347.out 1).trans rfl, (bC BK347.out 2).trans rfl, (bC BK334.out 0).trans rfl, (bC BK334.out 1).trans rfl, (bC BK334.out 2).trans rfl⟩ (fun hHeld => ?_)
       clear hK K
       refine norm_ (a' := ?_) ?_ ?_
       rotate_left
       ·show Act.put _ (some 60) _ = _
        simp only [Act.put, setIfInBounds_toArray, set_cons_zero, set_cons_succ, i64_w, i32_w]
        rfl
       refine pure_ (i := 13) (N := some 61) (v := ?_) (a' := ?_) #[true, true, true, true, true, true, true, true, true, true, true, true, true, true, false, false, false, false, false, false, false, false, false, false, false] rfl rfl (any_of HT_.out (by kernel_rfl)) (fun _ _ _ h => h) (Or.inl ⟨by rfl, ?_⟩) ?_ ?_
       rotate_left
       ·intro w'
        go_simp
        with_reducible rfl
       rotate_left
       ·simp only [Act.put, setIfInBounds_toArray, set_cons_zero, set_cons_succ, i64_w, i32_w]
        rfl
       refine pure_ (i := 14) (N := some 62) (v := ?_) (a' := ?_) #[true, true, true, true, true, true, true, true, true, true, true, true, true, true, true, false, false, false, false, false, false, false, false, false, false] rfl rfl (any_of HT_.out (by kernel_rfl)) (fun _ _ _ h => h) (Or.inl ⟨by rfl, ?_⟩) ?_ ?_
       rotate_left
       ·intro w'
        go_simp
        with_reducible rfl
       rotate_left
       ·simp only [Act.put, setIfInBounds_toArray, set_cons_zero, set_cons_succ, i64_w, i32_w]
        rfl
       refine pure_ (i := 15) (N := some 63) (v := ?_) (a' := ?_) #[true, true, true, true, true, true, true, true, true, true, true, true, true, true, true, true, false, false, false, false, false, false, false, false, false] rfl rfl (any_of HT_.out (by kernel_rfl)) (fun _ _ _ h => h) (Or.inl ⟨by rfl, ?_⟩) ?_ ?_
       rotate_left
       ·intro w'
        go_simp
        with_reducible rfl
       rotate_left
       ·simp only [Act.put, setIfInBounds_toArray, set_cons_zero, set_cons_succ, i64_w, i32_w]
        rfl
       refine pure_ (i := 16) (N := some 64) (v := ?_) (a' := ?_) #[true, true, true, true, true, true, true, true, true, true, true, true, true, true, true, true, true, false, false, false, false, false, false, false, false] rfl rfl (any_of HT_.out (by kernel_rfl)) (fun _ _ _ h => h) (Or.inl ⟨by rfl, ?_⟩) ?_ ?_
       rotate_left
       ·intro w'
        go_simp
        with_reducible rfl
       rotate_left
       ·simp only [Act.put, setIfInBounds_toArray, set_cons_zero, set_cons_succ, i64_w, i32_w]
        rfl
       refine pure_ (i := 19) (N := some 67) (v := ?_) (a' := ?_) #[true, true, true, true, true, true, true, true, true, true, true, true, true, true, true, true, true, false, false, true, false, false, false, false, false] rfl rfl (any_of HT_.out (by kernel_rfl)) (fun _ _ _ h => h) (Or.inl ⟨by rfl, ?_⟩) ?_ ?_
       rotate_left
       ·intro w'
        go_simp
        with_reducible rfl
       rotate_left
       ·simp only [Act.put, setIfInBounds_toArray, set_cons_zero, set_cons_succ, i64_w, i32_w]
        rfl
       refine take_ (i := 17) (N := some 65) (v := ?_) (a' := ?_) #[true, true, true, true, true, true, true, true, true, true, true, true, true, true, true, true, true, true, false, true, false, false, false, false, false] rfl rfl (take_ofW HT_.out HW_.out (by kernel_rfl)) (fun _ _ _ h => h) (Or.inl ⟨by rfl, ?_⟩) hHeld ?_ ?_
       rotate_left
       ·rintro w' ⟨s0, s1, s2, s3, s4, s5, s6, s7, s8, s9, s10, s11⟩
        go_simp
        with_reducible rfl
       rotate_left
       ·simp only [Act.put, setIfInBounds_toArray, set_cons_zero, set_cons_succ, i64_w, i32_w]
        rfl
       refine pure_ (i := 18) (N := some 66) (v := ?_) (a' := ?_) #[true, true, true, true, true, true, true, true, true, true, true, true, true, true, true, true, true, true, true, true, false, false, false, false, false] rfl rfl (any_of HT_.out (by kernel_rfl)) (fun _ _ _ h => h) (Or.inl ⟨by rfl, ?_⟩) ?_ ?_
       rotate_left
       ·intro w'
        go_simp
        with_reducible rfl
       rotate_left
       ·simp only [Act.put, setIfInBounds_toArray, set_cons_zero, set_cons_succ, i64_w, i32_w]
        rfl
       refine take_ (i := 20) (N := some 68) (v := ?_) (a' := ?_) #[true, true, true, true, true, true, true, true, true, true, true, true, true, true, true, true, true, true, true, true, true, false, false, false, false] rfl rfl (take_ofW HT_.out HW_.out (by kernel_rfl)) (fun _ _ _ h => h) (Or.inl ⟨by rfl, ?_⟩) hHeld ?_ ?_
       rotate_left
       ·rintro w' ⟨s0, s1, s2, s3, s4, s5, s6, s7, s8, s9, s10, s11⟩
        go_simp
        with_reducible rfl
       rotate_left
       ·simp only [Act.put, setIfInBounds_toArray, set_cons_zero, set_cons_succ, i64_w, i32_w]
        rfl
       refine pure_ (i := 21) (N := some 69) (v := ?_) (a' := ?_) #[true, true, true, true, true, true, true, true, true, true, true, true, true, true, true, true, true, true, true, true, true, true, false, false, false] rfl rfl (any_of HT_.out (by kernel_rfl)) (fun _ _ _ h => h) (Or.inl ⟨by rfl, ?_⟩) ?_ ?_
       rotate_left
       ·intro w'
        go_simp
        with_reducible rfl
       rotate_left
       ·simp only [Act.put, setIfInBounds_toArray, set_cons_zero, set_cons_succ, i64_w, i32_w]
        rfl
       refine pure_ (i := 22) (N := some 70) (v := ?_) (a' := ?_) #[true, true, true, true, true, true, true, true, true, true, true, true, true, true, true, true, true, true, true, true, true, true, true, false, false] rfl rfl (any_of HT_.out (by kernel_rfl)) (fun _ _ _ h => h) (Or.inl ⟨by rfl, ?_⟩) ?_ ?_
       rotate_left
       ·intro w'
        go_simp
        with_reducible rfl
       rotate_left
       ·simp only [Act.put, setIfInBounds_toArray, set_cons_zero, set_cons_succ, i64_w, i32_w]
        rfl
       refine pure_ (i := 23) (N := some 71) (v := ?_) (a' := ?_) #[true, true, true, true, true, true, true, true, true, true, true, true, true, true, true, true, true, true, true, true, true, true, true, true, false] rfl rfl (any_of HT_.out (by kernel_rfl)) (fun _ _ _ h => h) (Or.inl ⟨by rfl, ?_⟩) ?_ ?_
       rotate_left
       ·intro w'
        go_simp
        with_reducible rfl
       rotate_left
       ·simp only [Act.put, setIfInBounds_toArray, set_cons_zero, set_cons_succ, i64_w, i32_w]
        rfl
       refine pure_ (i := 24) (N := some 8) (v := ?_) (a' := ?_) #[true, true, true, true, true, true, true, true, true, true, true, true, true, true, true, true, true, true, true, true, true, true, true, true, true] rfl rfl (any_of HT_.out (by kernel_rfl)) (fun _ _ _ h => h) (Or.inl ⟨by rfl, ?_⟩) ?_ ?_
       rotate_left
       ·intro w'
        go_simp
        with_reducible rfl
       rotate_left
       ·simp only [Act.put, setIfInBounds_toArray, set_cons_zero, set_cons_succ, i64_w, i32_w]
        rfl
       refine done_ (done_of HT_.out (by kernel_rfl)) ?_
       try go_wp2
       go_ret
       exact ⟨by first | rfl | (simp [errW_none, errW_some] <;> rfl) | (simp [*, errW_none, errW_some] <;> rfl), bA⟩
      ·rw [if_neg c18] at H
       have c18b0 : ((t326.toList == t339.toList) == t348) = false := by simpa using c18
       (try (have c18b1 : decide ((t326.toList == t339.toList) = t348) = false := by simpa using c18))
       (try (have c18b2 : ((t326.toList == t339.toList) == t348) = false := by simpa using c18))
       (try (have c18b3 : ¬ ((t326.toList == t339.toList) = t348) := by simpa using c18))
       clear c18
       exact absurd H (by simp)
     ·replace c16 := Bool.eq_false_iff.mpr c16
      subst c16
      have H1 : (none) = some r := by rw [if_neg (show ¬ (false = true) by decide)] at H; exact H
      clear H
      have H := H1
      clear H1
      exact absurd H (by simp)
    ·replace c15 := Bool.eq_false_iff.mpr c15
     subst c15
     have H1 : (none) = some r := by rw [if_neg (show ¬ (false = true) by decide)] at H; exact H
     clear H
     have H := H1
     clear H1
     exact absurd H (by simp)
end Go.Proofs.YtboommbclbjlnaaDoor.Fn
end
