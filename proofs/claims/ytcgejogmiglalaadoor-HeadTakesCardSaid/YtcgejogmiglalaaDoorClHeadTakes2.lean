-- Packed by pack.py, a program of this session, out of texts of this claim.
import Derived.Test.YtcgejogmiglalaaDoorClHeadTakes1
import Derived.Test.YtcgejogmiglalaaDoorLfShelf
import Derived.Deep.RegionHeld3
import Derived.LoopTactic
import Derived.Defers
import Derived.Lib.Hide
import Derived.RegionTactic
section
-- Written by printx.py, a program of this session over the kit's print: each Go function as a plain Lean function, and that the Go code computes it.
namespace Go.Proofs.YtcgejogmiglalaaDoor.Fn
open Go.RowKit Go.Proofs.YtcgejogmiglalaaDoorW.PrintWords Go.Proofs.YtcgejogmiglalaaDoorW.PrintLast Go.Proofs.YtcgejogmiglalaaDoorW.PrintMore Go.Proofs.YtcgejogmiglalaaDoor.Lf
open List (setIfInBounds_toArray set_cons_zero set_cons_succ)
attribute [local go_sem] max2_int min2_int max_two min_two max_three min_three max_four min_four   -- for this text's walks alone
set_option linter.unusedVariables false
set_option linter.unusedSimpArgs false
mutual
def r6_Put.l0 : Nat → ByteArray → Int → Int → Int → Int → List (S53) → Option (ByteArray × Int)
 | 0, _, _, _, _, _, _ => none
 | k + 1, x5, x6, x212000, x212001, x212002, x212003 => if x6 < (x212003.length : Int) then (if 0 ≤ x6 then ((r2_Put.f k (IntKind.u64.wrap ((rd_T53 x212003 x6).f0)) 2).bind fun t218 => (if x5.size + t218.size ≤ 9223372036854775807 then ((r2_Put.f k (IntKind.u64.wrap ((rd_T53 x212003 x6).f1)) 2).bind fun t220 => (if x5.size + t218.size + t220.size ≤ 9223372036854775807 then (r6_Put.l0 k ((x5 ++ t218) ++ t220) (wrap64 (x6 + 1)) x212000 x212001 x212002 x212003) else (none))) else (none))) else (none)) else (r6_Put.l1 k x5)
def r6_Put.l1 : Nat → ByteArray → Option (ByteArray × Int)
 | 0, _ => none
 | k + 1, x5 => if (x5.size : Int) < 60 then (if x5.size + 1 ≤ 9223372036854775807 then (r6_Put.l1 k (x5 ++ (⟨#[0]⟩ : ByteArray))) else (none)) else ((r3_Put.f k x5).bind fun t221 => (some (t221, 0)))
end
def r6_Put.f (k : Nat) (a0_0 : Int) (a0_1 : Int) (a0_2 : Int) (l0_3 : List (S53)) : Option (ByteArray × Int) := (r6_Right.f k a0_0 a0_1 a0_2 l0_3).bind fun t212 => (if t212 = true then ((r2_Put.f k a0_0 8).bind fun t213 => (if 4 + t213.size ≤ 9223372036854775807 then ((r2_Put.f k (IntKind.u64.wrap (a0_1)) 2).bind fun t214 => (if (⟨#[114, 116, 99, 108]⟩ : ByteArray).size + t213.size + t214.size ≤ 9223372036854775807 then ((r2_Put.f k (IntKind.u64.wrap (a0_2)) 4).bind fun t215 => (if (⟨#[114, 116, 99, 108]⟩ : ByteArray).size + t213.size + t214.size + t215.size ≤ 9223372036854775807 then ((r2_Put.f k (IntKind.u64.wrap ((l0_3.length : Int))) 1).bind fun t216 => (if (⟨#[114, 116, 99, 108]⟩ : ByteArray).size + t213.size + t214.size + t215.size + t216.size ≤ 9223372036854775807 then (r6_Put.l0 k (((((⟨#[114, 116, 99, 108]⟩ : ByteArray) ++ t213) ++ t214) ++ t215) ++ t216) 0 a0_0 a0_1 a0_2 l0_3) else (none))) else (none))) else (none))) else (none))) else (some ((⟨#[]⟩ : ByteArray), 1)))
theorem r6_Put.mono_l : ∀ k, (∀ y0 y1 y2 y3 y4 y5, LeO (r6_Put.l0 k y0 y1 y2 y3 y4 y5) (r6_Put.l0 (k + 1) y0 y1 y2 y3 y4 y5)) ∧ (∀ y0, LeO (r6_Put.l1 k y0) (r6_Put.l1 (k + 1) y0))
 | 0 => ⟨fun _ _ _ _ _ _ r h => by simp [r6_Put.l0] at h, fun _ r h => by simp [r6_Put.l1] at h⟩
 | k + 1 => by
  obtain ⟨ih0, ih1⟩ := r6_Put.mono_l k
  refine ⟨?_, ?_⟩
  ·intro y0 y1 y2 y3 y4 y5
   unfold r6_Put.l0
   repeat' first
   | (with_reducible exact ih0 _ _ _ _ _ _)
   | (with_reducible exact ih1 _)
   | (with_reducible exact r2_Put.mono _ _ _)
   | (with_reducible exact r3_Put.mono _ _)
   | (with_reducible exact r6_Right.mono _ _ _ _ _)
   | (with_reducible exact LeO.refl _)
   | (with_reducible exact LeO.none _)
   | (with_reducible refine LeO.ite ?_ ?_)
   | (with_reducible refine LeO.bind ?_ (fun _ => ?_))
   | exact ih0 _ _ _ _ _ _
   | exact ih1 _
   | exact r2_Put.mono _ _ _
   | exact r3_Put.mono _ _
   | exact r6_Right.mono _ _ _ _ _
   | exact LeO.none _
   | refine LeO.ite ?_ ?_
   | refine LeO.bind ?_ (fun _ => ?_)
  ·intro y0
   unfold r6_Put.l1
   repeat' first
   | (with_reducible exact ih0 _ _ _ _ _ _)
   | (with_reducible exact ih1 _)
   | (with_reducible exact r2_Put.mono _ _ _)
   | (with_reducible exact r3_Put.mono _ _)
   | (with_reducible exact r6_Right.mono _ _ _ _ _)
   | (with_reducible exact LeO.refl _)
   | (with_reducible exact LeO.none _)
   | (with_reducible refine LeO.ite ?_ ?_)
   | (with_reducible refine LeO.bind ?_ (fun _ => ?_))
   | exact ih0 _ _ _ _ _ _
   | exact ih1 _
   | exact r2_Put.mono _ _ _
   | exact r3_Put.mono _ _
   | exact r6_Right.mono _ _ _ _ _
   | exact LeO.none _
   | refine LeO.ite ?_ ?_
   | refine LeO.bind ?_ (fun _ => ?_)
theorem r6_Put.mono : ∀ a0 a1 a2 a3 k, LeO (r6_Put.f k a0 a1 a2 a3) (r6_Put.f (k + 1) a0 a1 a2 a3) := by
 intro a0 a1 a2 a3 k
 obtain ⟨ih0, ih1⟩ := r6_Put.mono_l k
 unfold r6_Put.f
 repeat' first
   | (with_reducible exact ih0 _ _ _ _ _ _)
   | (with_reducible exact ih1 _)
   | (with_reducible exact r2_Put.mono _ _ _)
   | (with_reducible exact r3_Put.mono _ _)
   | (with_reducible exact r6_Right.mono _ _ _ _ _)
   | (with_reducible exact LeO.refl _)
   | (with_reducible exact LeO.none _)
   | (with_reducible refine LeO.ite ?_ ?_)
   | (with_reducible refine LeO.bind ?_ (fun _ => ?_))
   | exact ih0 _ _ _ _ _ _
   | exact ih1 _
   | exact r2_Put.mono _ _ _
   | exact r3_Put.mono _ _
   | exact r6_Right.mono _ _ _ _ _
   | exact LeO.none _
   | refine LeO.ite ?_ ?_
   | refine LeO.bind ?_ (fun _ => ?_)
def r6_Put.T4 : Bool × List (List Nat × List Nat) := (true, [([], []), ([0], [0]), ([1], [1]), ([2], [2]), ([], []), ([4], [4]), ([5], [5]), ([6, 2], [6]), ([3, 7], [3, 7]), ([], []), ([9], [9]), ([10], [10]), ([11, 7], [11]), ([8, 12], [8, 12]), ([], []), ([14], [14]), ([15], [15]), ([16], [16]), ([17, 12], [17]), ([13, 18], [13, 18]), ([19, 18, 0, 1, 2, 3, 4, 5, 6, 7, 8, 9, 10, 11, 12, 13, 14, 15, 16, 17, 18, 19], [19])])
def r6_Put.B4 : List Nat := [0, 1, 3, 7, 0, 16, 48, 119, 255, 0, 512, 1536, 3831, 8191, 0, 16384, 49152, 114688, 253687, 524287, 1048575]
theorem r6_Put.tab4 : rtab .any (opsOf Tryd.f11 4) = r6_Put.T4 := by kernel_rfl
theorem r6_Put.bits4 : waitsOk r6_Put.T4.2 r6_Put.B4 = true := by kernel_rfl
def r6_Put.T8 : Bool × List (List Nat × List Nat) := (true, [([], []), ([], []), ([1], [1]), ([], []), ([2, 3], [2, 3]), ([4], [4]), ([5], [5]), ([6], [6]), ([7], [7]), ([0, 8], [0, 8]), ([], []), ([10], [10]), ([], []), ([11, 12], [11, 12]), ([13], [13]), ([14], [14]), ([15], [15]), ([16, 8], [16]), ([9, 17], [9, 17]), ([18, 17, 0, 1, 2, 3, 4, 5, 6, 7, 8, 9, 10, 11, 12, 13, 14, 15, 16, 17, 18], [0, 18])])
def r6_Put.B8 : List Nat := [0, 0, 2, 0, 14, 30, 62, 126, 254, 511, 0, 1024, 0, 7168, 15360, 31744, 64512, 130558, 262143, 524287]
theorem r6_Put.tab8 : rtab .any (opsOf Tryd.f11 8) = r6_Put.T8 := by kernel_rfl
theorem r6_Put.bits8 : waitsOk r6_Put.T8.2 r6_Put.B8 = true := by kernel_rfl
set_option maxHeartbeats 8000000 in
set_option maxRecDepth 100000 in
theorem r6_Put.calls (k : Nat) (a0_0 : Int) (a0_1 : Int) (a0_2 : Int) (A0_3 : Option Addr) (c0_3 : Nat) (l0_3 : List (S53)) (r1 : ByteArray) (r2 : Int) (w : World) (hr0_3 : Kd.C k53 w A0_3 l0_3.length l0_3) (hc0_3 : l0_3.length ≤ c0_3) (h : r6_Put.f k a0_0 a0_1 a0_2 l0_3 = some (r1, r2)) :
  Calls Tryd.prog 11 #[.agg #[.int .u64 a0_0, .int .i64 a0_1, .int .i64 a0_2, .slice A0_3 l0_3.length c0_3]] w fun e w' => e = .returned (.tuple #[.string r1, .int .i64 r2]) ∧ Below w.heap.size w w' := by
 have hu31 := Tryd.underlying31
 have HR0_3 := Ax.mk hr0_3
 have HC0_3 := Ax.mk hc0_3
 clear hr0_3 hc0_3
 have HB := Ax.mk (Below.refl w.heap.size w)
 have H : ((r6_Right.f k a0_0 a0_1 a0_2 l0_3).bind fun t212 => (if t212 = true then ((r2_Put.f k a0_0 8).bind fun t213 => (if 4 + t213.size ≤ 9223372036854775807 then ((r2_Put.f k (IntKind.u64.wrap (a0_1)) 2).bind fun t214 => (if (⟨#[114, 116, 99, 108]⟩ : ByteArray).size + t213.size + t214.size ≤ 9223372036854775807 then ((r2_Put.f k (IntKind.u64.wrap (a0_2)) 4).bind fun t215 => (if (⟨#[114, 116, 99, 108]⟩ : ByteArray).size + t213.size + t214.size + t215.size ≤ 9223372036854775807 then ((r2_Put.f k (IntKind.u64.wrap ((l0_3.length : Int))) 1).bind fun t216 => (if (⟨#[114, 116, 99, 108]⟩ : ByteArray).size + t213.size + t214.size + t215.size + t216.size ≤ 9223372036854775807 then (r6_Put.l0 k (((((⟨#[114, 116, 99, 108]⟩ : ByteArray) ++ t213) ++ t214) ++ t215) ++ t216) 0 a0_0 a0_1 a0_2 l0_3) else (none))) else (none))) else (none))) else (none))) else (some ((⟨#[]⟩ : ByteArray), 1)))) = some (r1, r2) := h
 clear h
 replace H := Option.bind_eq_some_iff.mp H
 obtain ⟨t212, A20, H⟩ := H
 replace H : (if t212 = true then ((r2_Put.f k a0_0 8).bind fun t213 => (if 4 + t213.size ≤ 9223372036854775807 then ((r2_Put.f k (IntKind.u64.wrap (a0_1)) 2).bind fun t214 => (if (⟨#[114, 116, 99, 108]⟩ : ByteArray).size + t213.size + t214.size ≤ 9223372036854775807 then ((r2_Put.f k (IntKind.u64.wrap (a0_2)) 4).bind fun t215 => (if (⟨#[114, 116, 99, 108]⟩ : ByteArray).size + t213.size + t214.size + t215.size ≤ 9223372036854775807 then ((r2_Put.f k (IntKind.u64.wrap ((l0_3.length : Int))) 1).bind fun t216 => (if (⟨#[114, 116, 99, 108]⟩ : ByteArray).size + t213.size + t214.size + t215.size + t216.size ≤ 9223372036854775807 then (r6_Put.l0 k (((((⟨#[114, 116, 99, 108]⟩ : ByteArray) ++ t213) ++ t214) ++ t215) ++ t216) 0 a0_0 a0_1 a0_2 l0_3) else (none))) else (none))) else (none))) else (none))) else (some ((⟨#[]⟩ : ByteArray), 1))) = some (r1, r2) := H
 have A2 := Ax.mk A20
 clear A20
 by_cases c3 : t212 = true
 ·subst c3
  have H1 : ((r2_Put.f k a0_0 8).bind fun t213 => (if 4 + t213.size ≤ 9223372036854775807 then ((r2_Put.f k (IntKind.u64.wrap (a0_1)) 2).bind fun t214 => (if (⟨#[114, 116, 99, 108]⟩ : ByteArray).size + t213.size + t214.size ≤ 9223372036854775807 then ((r2_Put.f k (IntKind.u64.wrap (a0_2)) 4).bind fun t215 => (if (⟨#[114, 116, 99, 108]⟩ : ByteArray).size + t213.size + t214.size + t215.size ≤ 9223372036854775807 then ((r2_Put.f k (IntKind.u64.wrap ((l0_3.length : Int))) 1).bind fun t216 => (if (⟨#[114, 116, 99, 108]⟩ : ByteArray).size + t213.size + t214.size + t215.size + t216.size ≤ 9223372036854775807 then (r6_Put.l0 k (((((⟨#[114, 116, 99, 108]⟩ : ByteArray) ++ t213) ++ t214) ++ t215) ++ t216) 0 a0_0 a0_1 a0_2 l0_3) else (none))) else (none))) else (none))) else (none))) = some (r1, r2) := by rw [if_pos rfl] at H; exact H
  clear H
  have H := H1
  clear H1
  replace H := Option.bind_eq_some_iff.mp H
  obtain ⟨t213, A40, H⟩ := H
  replace H : (if 4 + t213.size ≤ 9223372036854775807 then ((r2_Put.f k (IntKind.u64.wrap (a0_1)) 2).bind fun t214 => (if (⟨#[114, 116, 99, 108]⟩ : ByteArray).size + t213.size + t214.size ≤ 9223372036854775807 then ((r2_Put.f k (IntKind.u64.wrap (a0_2)) 4).bind fun t215 => (if (⟨#[114, 116, 99, 108]⟩ : ByteArray).size + t213.size + t214.size + t215.size ≤ 9223372036854775807 then ((r2_Put.f k (IntKind.u64.wrap ((l0_3.length : Int))) 1).bind fun t216 => (if (⟨#[114, 116, 99, 108]⟩ : ByteArray).size + t213.size + t214.size + t215.size + t216.size ≤ 9223372036854775807 then (r6_Put.l0 k (((((⟨#[114, 116, 99, 108]⟩ : ByteArray) ++ t213) ++ t214) ++ t215) ++ t216) 0 a0_0 a0_1 a0_2 l0_3) else (none))) else (none))) else (none))) else (none)) = some (r1, r2) := H
  have A4 := Ax.mk A40
  clear A40
  by_cases c5 : 4 + t213.size ≤ 9223372036854775807
  ·rw [if_pos c5] at H
   have c5b0 := eq_true c5
   have c5b1 : decide (4 + t213.size ≤ 9223372036854775807) = true := decide_eq_true c5
   try have c5b2 : (9223372036854775807 < 4 + t213.size) = False := eq_false (Nat.not_lt.2 c5)
   replace H := Option.bind_eq_some_iff.mp H
   obtain ⟨t214, A60, H⟩ := H
   replace H : (if (⟨#[114, 116, 99, 108]⟩ : ByteArray).size + t213.size + t214.size ≤ 9223372036854775807 then ((r2_Put.f k (IntKind.u64.wrap (a0_2)) 4).bind fun t215 => (if (⟨#[114, 116, 99, 108]⟩ : ByteArray).size + t213.size + t214.size + t215.size ≤ 9223372036854775807 then ((r2_Put.f k (IntKind.u64.wrap ((l0_3.length : Int))) 1).bind fun t216 => (if (⟨#[114, 116, 99, 108]⟩ : ByteArray).size + t213.size + t214.size + t215.size + t216.size ≤ 9223372036854775807 then (r6_Put.l0 k (((((⟨#[114, 116, 99, 108]⟩ : ByteArray) ++ t213) ++ t214) ++ t215) ++ t216) 0 a0_0 a0_1 a0_2 l0_3) else (none))) else (none))) else (none)) = some (r1, r2) := H
   have A6 := Ax.mk A60
   clear A60
   by_cases c7 : (⟨#[114, 116, 99, 108]⟩ : ByteArray).size + t213.size + t214.size ≤ 9223372036854775807
   ·rw [if_pos c7] at H
    have z7 : (9223372036854775807 < 4 + t213.size + t214.size) = False := eq_false (Nat.not_lt.2 (show 4 + t213.size + t214.size ≤ 9223372036854775807 from c7))
    have c7b0 := eq_true c7
    have c7b1 : decide ((⟨#[114, 116, 99, 108]⟩ : ByteArray).size + t213.size + t214.size ≤ 9223372036854775807) = true := decide_eq_true c7
    try have c7b2 : (9223372036854775807 < (⟨#[114, 116, 99, 108]⟩ : ByteArray).size + t213.size + t214.size) = False := eq_false (Nat.not_lt.2 c7)
    replace H := Option.bind_eq_some_iff.mp H
    obtain ⟨t215, A80, H⟩ := H
    replace H : (if (⟨#[114, 116, 99, 108]⟩ : ByteArray).size + t213.size + t214.size + t215.size ≤ 9223372036854775807 then ((r2_Put.f k (IntKind.u64.wrap ((l0_3.length : Int))) 1).bind fun t216 => (if (⟨#[114, 116, 99, 108]⟩ : ByteArray).size + t213.size + t214.size + t215.size + t216.size ≤ 9223372036854775807 then (r6_Put.l0 k (((((⟨#[114, 116, 99, 108]⟩ : ByteArray) ++ t213) ++ t214) ++ t215) ++ t216) 0 a0_0 a0_1 a0_2 l0_3) else (none))) else (none)) = some (r1, r2) := H
    have A8 := Ax.mk A80
    clear A80
    by_cases c9 : (⟨#[114, 116, 99, 108]⟩ : ByteArray).size + t213.size + t214.size + t215.size ≤ 9223372036854775807
    ·rw [if_pos c9] at H
     have z9 : (9223372036854775807 < 4 + t213.size + t214.size + t215.size) = False := eq_false (Nat.not_lt.2 (show 4 + t213.size + t214.size + t215.size ≤ 9223372036854775807 from c9))
     have c9b0 := eq_true c9
     have c9b1 : decide ((⟨#[114, 116, 99, 108]⟩ : ByteArray).size + t213.size + t214.size + t215.size ≤ 9223372036854775807) = true := decide_eq_true c9
     try have c9b2 : (9223372036854775807 < (⟨#[114, 116, 99, 108]⟩ : ByteArray).size + t213.size + t214.size + t215.size) = False := eq_false (Nat.not_lt.2 c9)
     replace H := Option.bind_eq_some_iff.mp H
     obtain ⟨t216, A100, H⟩ := H
     replace H : (if (⟨#[114, 116, 99, 108]⟩ : ByteArray).size + t213.size + t214.size + t215.size + t216.size ≤ 9223372036854775807 then (r6_Put.l0 k (((((⟨#[114, 116, 99, 108]⟩ : ByteArray) ++ t213) ++ t214) ++ t215) ++ t216) 0 a0_0 a0_1 a0_2 l0_3) else (none)) = some (r1, r2) := H
     have A10 := Ax.mk A100
     clear A100
     by_cases c11 : (⟨#[114, 116, 99, 108]⟩ : ByteArray).size + t213.size + t214.size + t215.size + t216.size ≤ 9223372036854775807
     ·rw [if_pos c11] at H
      have z11 : (9223372036854775807 < 4 + t213.size + t214.size + t215.size + t216.size) = False := eq_false (Nat.not_lt.2 (show 4 + t213.size + t214.size + t215.size + t216.size ≤ 9223372036854775807 from c11))
      have c11b0 := eq_true c11
      have c11b1 : decide ((⟨#[114, 116, 99, 108]⟩ : ByteArray).size + t213.size + t214.size + t215.size + t216.size ≤ 9223372036854775807) = true := decide_eq_true c11
      try have c11b2 : (9223372036854775807 < (⟨#[114, 116, 99, 108]⟩ : ByteArray).size + t213.size + t214.size + t215.size + t216.size) = False := eq_false (Nat.not_lt.2 c11)
      have H' := Ax.mk H
      clear H
      go_enter Tryd.func11, Tryd.ntmps11
      try go_wp2_with (first | ((with_reducible refine gate_dst (N := 1) rfl ?_); refine box_event ?hg (N := 1) ?hd (cs := #[.int .u64 a0_0, .int .i64 a0_1, .int .i64 a0_2, .slice A0_3 l0_3.length c0_3]) (t := 31) ?hr ?_; (case hd => rfl); (case hg => rfl); (case hr => first | (go_simp; done) | (go_simp; rfl)); intro gb211 hg w12 hbox hb; have n0_ := Ax.mk (bP bA hb); have n1_ := Ax.mk (hbox); have n2_ := Ax.mk ((ge_new hg : w.heap.size ≤ gb211)); have n3_ := n2_; clear HB; have HB := n0_; have BK211 := n1_; have GW211 := n2_; have GE211 := n3_; clear n0_ n1_ n2_ n3_; clear hb hbox hg; have hcz13_0 : w12.cell? ⟨gb211, 0, none⟩ = some (.int .u64 a0_0) := (bC BK211.out 0).trans rfl; have hcz13_1 : w12.cell? ⟨gb211, 1, none⟩ = some (.int .i64 a0_1) := (bC BK211.out 1).trans rfl; have hcz13_2 : w12.cell? ⟨gb211, 2, none⟩ = some (.int .i64 a0_2) := (bC BK211.out 2).trans rfl; have hcz13_3 : w12.cell? ⟨gb211, 3, none⟩ = some (.slice A0_3 l0_3.length c0_3) := (bC BK211.out 3).trans rfl; have hfz13_0 := bF BK211.out 0; have hfz13_1 := bF BK211.out 1; have hfz13_2 := bF BK211.out 2; have hfz13_3 := bF BK211.out 3) | ((with_reducible refine gate_callee (f := 14) rfl ?_); refine goesL_ (some 8) rfl rfl Tryd.func14 (by kernel_rfl) rfl #[.agg #[.int .u64 a0_0, .int .i64 a0_1, .int .i64 a0_2, .slice A0_3 l0_3.length c0_3]] rfl (by (try simp only [List.map_toArray, List.map_cons, List.map_nil]); first | done | rfl | (simp only [List.length_drop, List.length_take]; rfl) | (rw [wrap_sum2 (by assumption)]; rfl)) ?_; (with_reducible refine (r6_Right.calls k a0_0 a0_1 a0_2 _ _ l0_3 true _ ?side1 ?side2 A2.out).mono ?_); (case side1 => repeat (first | exact (Kd.C_below HR0_3.out HB.out) | (with_reducible refine Kd.C_alloc ?_ _) | (with_reducible refine Kd.C_drewN ?_ _) | (with_reducible refine Kd.C_drew ?_))); (case side2 => exact HC0_3.out); rintro e w14 ⟨rfl, hb⟩; refine ⟨_, rfl, ?_⟩; have n0_ := Ax.mk (bB (bT BK211.out) hb); have n1_ := Ax.mk (bP bA hb); clear BK211; clear HB; have BK211 := n0_; have HB := n1_; clear n0_ n1_; (try clear hb); (try clear hb2); (try clear hk); (try clear hi)))
      have n0_ := Ax.mk (blk_drew BK211.out)
      have n1_ := Ax.mk (below_drew1 HB.out)
      clear BK211
      clear HB
      have BK211 := n0_
      have HB := n1_
      clear n0_ n1_
      refine start_ (n := 21) (S := fun w' => w'.cell? ⟨gb211, 0, none⟩ = some (.int .u64 a0_0) ∧ w'.cell? ⟨gb211, 1, none⟩ = some (.int .i64 a0_1) ∧ w'.cell? ⟨gb211, 2, none⟩ = some (.int .i64 a0_2) ∧ w'.cell? ⟨gb211, 3, none⟩ = some (.slice A0_3 l0_3.length c0_3)) (ds := []) #[false, false, false, false, false, false, false, false, false, false, false, false, false, false, false, false, false, false, false, false, false] (by kernel_rfl) rfl rfl ⟨(bC BK211.out 0).trans rfl, (bC BK211.out 1).trans rfl, (bC BK211.out 2).trans rfl, (bC BK211.out 3).trans rfl⟩ (fun hHeld => ?_); refine with_tabW r6_Put.tab4 r6_Put.bits4 (fun HT_ HW_ => ?_)
      generalize w14.drew = w15 at BK211 HB hHeld ⊢
      refine pure_ (i := 0) (N := some 11) (v := ?_) (a' := ?_) #[true, false, false, false, false, false, false, false, false, false, false, false, false, false, false, false, false, false, false, false, false] rfl rfl (any_of HT_.out (by kernel_rfl)) (fun _ _ _ h => h) (Or.inl ⟨by rfl, ?_⟩) ?_ ?_
      rotate_left
      ·intro w'
       go_simp
       with_reducible rfl
      rotate_left
      ·simp only [Act.put, setIfInBounds_toArray, set_cons_zero, set_cons_succ, i64_w, i32_w]
       rfl
      refine pure_ (i := 4) (N := some 15) (v := ?_) (a' := ?_) #[true, false, false, false, true, false, false, false, false, false, false, false, false, false, false, false, false, false, false, false, false] rfl rfl (any_of HT_.out (by kernel_rfl)) (fun _ _ _ h => h) (Or.inl ⟨by rfl, ?_⟩) ?_ ?_
      rotate_left
      ·intro w'
       go_simp
       with_reducible rfl
      rotate_left
      ·simp only [Act.put, setIfInBounds_toArray, set_cons_zero, set_cons_succ, i64_w, i32_w]
       rfl
      refine pure_ (i := 9) (N := some 20) (v := ?_) (a' := ?_) #[true, false, false, false, true, false, false, false, false, true, false, false, false, false, false, false, false, false, false, false, false] rfl rfl (any_of HT_.out (by kernel_rfl)) (fun _ _ _ h => h) (Or.inl ⟨by rfl, ?_⟩) ?_ ?_
      rotate_left
      ·intro w'
       go_simp
       with_reducible rfl
      rotate_left
      ·simp only [Act.put, setIfInBounds_toArray, set_cons_zero, set_cons_succ, i64_w, i32_w]
       rfl
      refine pure_ (i := 14) (N := some 25) (v := ?_) (a' := ?_) #[true, false, false, false, true, false, false, false, false, true, false, false, false, false, true, false, false, false, false, false, false] rfl rfl (any_of HT_.out (by kernel_rfl)) (fun _ _ _ h => h) (Or.inl ⟨by rfl, ?_⟩) ?_ ?_
      rotate_left
      ·intro w'
       go_simp
       with_reducible rfl
      rotate_left
      ·simp only [Act.put, setIfInBounds_toArray, set_cons_zero, set_cons_succ, i64_w, i32_w]
       rfl
      refine take_ (i := 1) (N := some 12) (v := ?_) (a' := ?_) #[true, true, false, false, true, false, false, false, false, true, false, false, false, false, true, false, false, false, false, false, false] rfl rfl (take_ofW HT_.out HW_.out (by kernel_rfl)) (fun _ _ _ h => h) (Or.inl ⟨by rfl, ?_⟩) hHeld ?_ ?_
      rotate_left
      ·rintro w' ⟨s0, s1, s2, s3⟩
       go_simp
       with_reducible rfl
      rotate_left
      ·simp only [Act.put, setIfInBounds_toArray, set_cons_zero, set_cons_succ, i64_w, i32_w]
       rfl
      refine take_ (i := 5) (N := some 16) (v := ?_) (a' := ?_) #[true, true, false, false, true, true, false, false, false, true, false, false, false, false, true, false, false, false, false, false, false] rfl rfl (take_ofW HT_.out HW_.out (by kernel_rfl)) (fun _ _ _ h => h) (Or.inl ⟨by rfl, ?_⟩) hHeld ?_ ?_
      rotate_left
      ·rintro w' ⟨s0, s1, s2, s3⟩
       go_simp
       with_reducible rfl
      rotate_left
      ·simp only [Act.put, setIfInBounds_toArray, set_cons_zero, set_cons_succ, i64_w, i32_w]
       rfl
      refine pure_ (i := 6) (N := some 17) (v := ?_) (a' := ?_) #[true, true, false, false, true, true, true, false, false, true, false, false, false, false, true, false, false, false, false, false, false] rfl rfl (any_of HT_.out (by kernel_rfl)) (fun _ _ _ h => h) (Or.inl ⟨by rfl, ?_⟩) ?_ ?_
      rotate_left
      ·intro w'
       go_simp
       with_reducible rfl
      rotate_left
      ·simp only [Act.put, setIfInBounds_toArray, set_cons_zero, set_cons_succ, i64_w, i32_w]
       rfl
      refine take_ (i := 10) (N := some 21) (v := ?_) (a' := ?_) #[true, true, false, false, true, true, true, false, false, true, true, false, false, false, true, false, false, false, false, false, false] rfl rfl (take_ofW HT_.out HW_.out (by kernel_rfl)) (fun _ _ _ h => h) (Or.inl ⟨by rfl, ?_⟩) hHeld ?_ ?_
      rotate_left
      ·rintro w' ⟨s0, s1, s2, s3⟩
       go_simp
       with_reducible rfl
      rotate_left
      ·simp only [Act.put, setIfInBounds_toArray, set_cons_zero, set_cons_succ, i64_w, i32_w]
       rfl
      refine pure_ (i := 11) (N := some 22) (v := ?_) (a' := ?_) #[true, true, false, false, true, true, true, false, false, true, true, true, false, false, true, false, false, false, false, false, false] rfl rfl (any_of HT_.out (by kernel_rfl)) (fun _ _ _ h => h) (Or.inl ⟨by rfl, ?_⟩) ?_ ?_
      rotate_left
      ·intro w'
       go_simp
       with_reducible rfl
      rotate_left
      ·simp only [Act.put, setIfInBounds_toArray, set_cons_zero, set_cons_succ, i64_w, i32_w]
       rfl
      refine take_ (i := 15) (N := some 26) (v := ?_) (a' := ?_) #[true, true, false, false, true, true, true, false, false, true, true, true, false, false, true, true, false, false, false, false, false] rfl rfl (take_ofW HT_.out HW_.out (by kernel_rfl)) (fun _ _ _ h => h) (Or.inl ⟨by rfl, ?_⟩) hHeld ?_ ?_
      rotate_left
      ·rintro w' ⟨s0, s1, s2, s3⟩
       go_simp
       with_reducible rfl
      rotate_left
      ·simp only [Act.put, setIfInBounds_toArray, set_cons_zero, set_cons_succ, i64_w, i32_w]
       rfl
      refine pure_ (i := 16) (N := some 27) (v := ?_) (a' := ?_) #[true, true, false, false, true, true, true, false, false, true, true, true, false, false, true, true, true, false, false, false, false] rfl rfl (any_of HT_.out (by kernel_rfl)) (fun _ _ _ h => h) (Or.inl ⟨by rfl, ?_⟩) ?_ ?_
      rotate_left
      ·intro w'
       go_simp
       with_reducible rfl
      rotate_left
      ·simp only [Act.put, setIfInBounds_toArray, set_cons_zero, set_cons_succ, i64_w, i32_w]
       rfl
      refine pure_ (i := 17) (N := some 28) (v := ?_) (a' := ?_) #[true, true, false, false, true, true, true, false, false, true, true, true, false, false, true, true, true, true, false, false, false] rfl rfl (any_of HT_.out (by kernel_rfl)) (fun _ _ _ h => h) (Or.inl ⟨by rfl, ?_⟩) ?_ ?_
      rotate_left
      ·intro w'
       go_simp
       with_reducible rfl
      rotate_left
      ·simp only [Act.put, setIfInBounds_toArray, set_cons_zero, set_cons_succ, i64_w, i32_w]
       rfl
      refine one_ (i := 2) (N := some 13) #[true, true, true, false, true, true, true, false, false, true, true, true, false, false, true, true, true, true, false, false, false] rfl rfl (one_of HT_.out (by kernel_rfl)) (by decide) (fun K hK => ?_)
      refine goes_ Tryd.func27 (by kernel_rfl) rfl #[.int .u64 a0_0, .int .i64 8] (by rfl) rfl rfl (by (try simp only [List.map_toArray, List.map_cons, List.map_nil]); first | done | rfl | (simp only [List.length_drop, List.length_take]; rfl) | (rw [wrap_sum2 (by assumption)]; rfl)) ?_
      with_reducible refine (r2_Put.calls k a0_0 8 t213 _ A4.out).mono ?_
      rintro e w16 ⟨rfl, hb⟩
      refine ⟨_, rfl, ?_⟩
      have n0_ := Ax.mk (bB (bT BK211.out) hb)
      have n1_ := Ax.mk (bP bA hb)
      clear BK211
      clear HB
      have BK211 := n0_
      have HB := n1_
      clear n0_ n1_
      (try clear hb)
      (try clear hb2)
      (try clear hk)
      (try clear hi)
      refine hK.out _ _ ⟨(bC BK211.out 0).trans rfl, (bC BK211.out 1).trans rfl, (bC BK211.out 2).trans rfl, (bC BK211.out 3).trans rfl⟩ (fun hHeld => ?_)
      clear hK K
      refine norm_ (a' := ?_) ?_ ?_
      rotate_left
      ·show Act.put _ (some 13) _ = _
       simp only [Act.put, setIfInBounds_toArray, set_cons_zero, set_cons_succ, i64_w, i32_w]
       rfl
      refine pure_ (i := 3) (N := some 14) (v := ?_) (a' := ?_) #[true, true, true, true, true, true, true, false, false, true, true, true, false, false, true, true, true, true, false, false, false] rfl rfl (any_of HT_.out (by kernel_rfl)) (fun _ _ _ h => h) (Or.inl ⟨by rfl, ?_⟩) ?_ ?_
      rotate_left
      ·intro w'
       go_simp
       with_reducible rfl
      rotate_left
      ·simp only [Act.put, setIfInBounds_toArray, set_cons_zero, set_cons_succ, i64_w, i32_w]
       rfl
      refine one_ (i := 7) (N := some 18) #[true, true, true, true, true, true, true, true, false, true, true, true, false, false, true, true, true, true, false, false, false] rfl rfl (one_of HT_.out (by kernel_rfl)) (by decide) (fun K hK => ?_)
      refine goes_ Tryd.func27 (by kernel_rfl) rfl #[.int .u64 (IntKind.u64.wrap (a0_1)), .int .i64 2] (by rfl) rfl rfl (by (try simp only [List.map_toArray, List.map_cons, List.map_nil]); first | done | rfl | (simp only [List.length_drop, List.length_take]; rfl) | (rw [wrap_sum2 (by assumption)]; rfl)) ?_
      with_reducible refine (r2_Put.calls k (IntKind.u64.wrap (a0_1)) 2 t214 _ A6.out).mono ?_
      rintro e w17 ⟨rfl, hb⟩
      refine ⟨_, rfl, ?_⟩
      have n0_ := Ax.mk (bB (bT BK211.out) hb)
      have n1_ := Ax.mk (bP bA hb)
      clear BK211
      clear HB
      have BK211 := n0_
      have HB := n1_
      clear n0_ n1_
      (try clear hb)
      (try clear hb2)
      (try clear hk)
      (try clear hi)
      refine hK.out _ _ ⟨(bC BK211.out 0).trans rfl, (bC BK211.out 1).trans rfl, (bC BK211.out 2).trans rfl, (bC BK211.out 3).trans rfl⟩ (fun hHeld => ?_)
      clear hK K
      refine norm_ (a' := ?_) ?_ ?_
      rotate_left
      ·show Act.put _ (some 18) _ = _
       simp only [Act.put, setIfInBounds_toArray, set_cons_zero, set_cons_succ, i64_w, i32_w]
       rfl
      refine pure_ (i := 8) (N := some 19) (v := ?_) (a' := ?_) #[true, true, true, true, true, true, true, true, true, true, true, true, false, false, true, true, true, true, false, false, false] rfl rfl (any_of HT_.out (by kernel_rfl)) (fun _ _ _ h => h) (Or.inl ⟨by rfl, ?_⟩) ?_ ?_
      rotate_left
      ·intro w'
       go_simp
       with_reducible rfl
      rotate_left
      ·simp only [Act.put, setIfInBounds_toArray, set_cons_zero, set_cons_succ, i64_w, i32_w]
       rfl
      refine one_ (i := 12) (N := some 23) #[true, true, true, true, true, true, true, true, true, true, true, true, true, false, true, true, true, true, false, false, false] rfl rfl (one_of HT_.out (by kernel_rfl)) (by decide) (fun K hK => ?_)
      refine goes_ Tryd.func27 (by kernel_rfl) rfl #[.int .u64 (IntKind.u64.wrap (a0_2)), .int .i64 4] (by rfl) rfl rfl (by (try simp only [List.map_toArray, List.map_cons, List.map_nil]); first | done | rfl | (simp only [List.length_drop, List.length_take]; rfl) | (rw [wrap_sum2 (by assumption)]; rfl)) ?_
      with_reducible refine (r2_Put.calls k (IntKind.u64.wrap (a0_2)) 4 t215 _ A8.out).mono ?_
      rintro e w18 ⟨rfl, hb⟩
      refine ⟨_, rfl, ?_⟩
      have n0_ := Ax.mk (bB (bT BK211.out) hb)
      have n1_ := Ax.mk (bP bA hb)
      clear BK211
      clear HB
      have BK211 := n0_
      have HB := n1_
      clear n0_ n1_
      (try clear hb)
      (try clear hb2)
      (try clear hk)
      (try clear hi)
      refine hK.out _ _ ⟨(bC BK211.out 0).trans rfl, (bC BK211.out 1).trans rfl, (bC BK211.out 2).trans rfl, (bC BK211.out 3).trans rfl⟩ (fun hHeld => ?_)
      clear hK K
      refine norm_ (a' := ?_) ?_ ?_
      rotate_left
      ·show Act.put _ (some 23) _ = _
       simp only [Act.put, setIfInBounds_toArray, set_cons_zero, set_cons_succ, i64_w, i32_w]
       rfl
      refine pure_ (i := 13) (N := some 24) (v := ?_) (a' := ?_) #[true, true, true, true, true, true, true, true, true, true, true, true, true, true, true, true, true, true, false, false, false] rfl rfl (any_of HT_.out (by kernel_rfl)) (fun _ _ _ h => h) (Or.inl ⟨by rfl, ?_⟩) ?_ ?_
      rotate_left
      ·intro w'
       go_simp
       with_reducible rfl
      rotate_left
      ·simp only [Act.put, setIfInBounds_toArray, set_cons_zero, set_cons_succ, i64_w, i32_w]
       rfl
      refine one_ (i := 18) (N := some 29) #[true, true, true, true, true, true, true, true, true, true, true, true, true, true, true, true, true, true, true, false, false] rfl rfl (one_of HT_.out (by kernel_rfl)) (by decide) (fun K hK => ?_)
      refine goes_ Tryd.func27 (by kernel_rfl) rfl #[.int .u64 (IntKind.u64.wrap ((l0_3.length : Int))), .int .i64 1] (by rfl) rfl rfl (by (try simp only [List.map_toArray, List.map_cons, List.map_nil]); first | done | rfl | (simp only [List.length_drop, List.length_take]; rfl) | (rw [wrap_sum2 (by assumption)]; rfl)) ?_
      with_reducible refine (r2_Put.calls k (IntKind.u64.wrap ((l0_3.length : Int))) 1 t216 _ A10.out).mono ?_
      rintro e w19 ⟨rfl, hb⟩
      refine ⟨_, rfl, ?_⟩
      have n0_ := Ax.mk (bB (bT BK211.out) hb)
      have n1_ := Ax.mk (bP bA hb)
      clear BK211
      clear HB
      have BK211 := n0_
      have HB := n1_
      clear n0_ n1_
      (try clear hb)
      (try clear hb2)
      (try clear hk)
      (try clear hi)
      refine hK.out _ _ ⟨(bC BK211.out 0).trans rfl, (bC BK211.out 1).trans rfl, (bC BK211.out 2).trans rfl, (bC BK211.out 3).trans rfl⟩ (fun hHeld => ?_)
      clear hK K
      refine norm_ (a' := ?_) ?_ ?_
      rotate_left
      ·show Act.put _ (some 29) _ = _
       simp only [Act.put, setIfInBounds_toArray, set_cons_zero, set_cons_succ, i64_w, i32_w]
       rfl
      refine pure_ (i := 19) (N := some 30) (v := ?_) (a' := ?_) #[true, true, true, true, true, true, true, true, true, true, true, true, true, true, true, true, true, true, true, true, false] rfl rfl (any_of HT_.out (by kernel_rfl)) (fun _ _ _ h => h) (Or.inl ⟨by rfl, ?_⟩) ?_ ?_
      rotate_left
      ·intro w'
       go_simp
       with_reducible rfl
      rotate_left
      ·simp only [Act.put, setIfInBounds_toArray, set_cons_zero, set_cons_succ, i64_w, i32_w]
       rfl
      refine pure_ (i := 20) (N := some 5) (v := ?_) (a' := ?_) #[true, true, true, true, true, true, true, true, true, true, true, true, true, true, true, true, true, true, true, true, true] rfl rfl (any_of HT_.out (by kernel_rfl)) (fun _ _ _ h => h) (Or.inl ⟨by rfl, ?_⟩) ?_ ?_
      rotate_left
      ·intro w'
       go_simp
       with_reducible rfl
      rotate_left
      ·simp only [Act.put, setIfInBounds_toArray, set_cons_zero, set_cons_succ, i64_w, i32_w]
       rfl
      refine done_ (done_of HT_.out (by kernel_rfl)) ?_
      try go_wp2
      go_loopg [5, 6] k (fun kq v5 v6 w' => ∃ (x5_1 : ByteArray) (x6_1 : Int), v5 = .string x5_1 ∧ v6 = .int .i64 x6_1 ∧ Ax (r6_Put.l0 kq x5_1 x6_1 a0_0 a0_1 a0_2 l0_3 = some (r1, r2)) ∧ Ax (kq ≤ k) ∧ Ax (w'.heap[gb211]? = some (.cells #[.int .u64 a0_0, .int .i64 a0_1, .int .i64 a0_2, (.slice A0_3 l0_3.length c0_3)] 31 (0, 0))) ∧ Ax (Below w.heap.size w w'))
      case atStart => exact ⟨(((((⟨#[114, 116, 99, 108]⟩ : ByteArray) ++ t213) ++ t214) ++ t215) ++ t216), (0), (by first | rfl | (simp; done) | (simp [*]; done)), (by first | rfl | (simp; done) | (simp [*]; done)), H', ⟨Nat.le_refl _⟩, ⟨by refine bT ?_; exact BK211.out⟩, ⟨bA⟩⟩
      case round =>
       clear H'
       try clear c1
       try clear c2
       try clear p2
       try clear c3
       try clear c5
       try clear c5b0
       try clear c5b1
       try clear c5b2
       try clear c7
       try clear c7b0
       try clear c7b1
       try clear c7b2
       try clear c9
       try clear c9b0
       try clear c9b1
       try clear c9b2
       try clear c11
       try clear c11b0
       try clear c11b1
       try clear c11b2
       try clear c14
       try clear hcz13_0
       try clear hcz13_1
       try clear hcz13_2
       try clear hcz13_3
       try clear hfz13_0
       try clear hfz13_1
       try clear hfz13_2
       try clear hfz13_3
       obtain ⟨x5_1, x6_1, rfl, rfl, HA, HK1, BK211, HB⟩ := hrel
       cases gk with
       | zero => exact absurd HA.out (by simp [r6_Put.l0])
       | succ k1 =>
        have H := HA.out
        clear HA
        simp only [r6_Put.l0] at H
        by_cases c20 : x6_1 < (l0_3.length : Int)
        ·rw [if_pos c20] at H
         have c20b0 : decide (x6_1 < (l0_3.length : Int)) = true := decide_eq_true c20
         clear c20
         by_cases c21 : 0 ≤ x6_1
         ·rw [if_pos c21] at H
          have c21b0 : decide (0 ≤ x6_1) = true := decide_eq_true c21
          clear c21
          replace H := Option.bind_eq_some_iff.mp H
          obtain ⟨t218, A220, H⟩ := H
          replace H : (if x5_1.size + t218.size ≤ 9223372036854775807 then ((r2_Put.f k1 (IntKind.u64.wrap ((rd_T53 l0_3 x6_1).f1)) 2).bind fun t220 => (if x5_1.size + t218.size + t220.size ≤ 9223372036854775807 then (r6_Put.l0 k1 ((x5_1 ++ t218) ++ t220) (wrap64 (x6_1 + 1)) a0_0 a0_1 a0_2 l0_3) else (none))) else (none)) = some (r1, r2) := H
          have A22 := Ax.mk A220
          clear A220
          by_cases c23 : x5_1.size + t218.size ≤ 9223372036854775807
          ·rw [if_pos c23] at H
           have c23b0 := eq_true c23
           have c23b1 : decide (x5_1.size + t218.size ≤ 9223372036854775807) = true := decide_eq_true c23
           try have c23b2 : (9223372036854775807 < x5_1.size + t218.size) = False := eq_false (Nat.not_lt.2 c23)
           replace H := Option.bind_eq_some_iff.mp H
           obtain ⟨t220, A240, H⟩ := H
           replace H : (if x5_1.size + t218.size + t220.size ≤ 9223372036854775807 then (r6_Put.l0 k1 ((x5_1 ++ t218) ++ t220) (wrap64 (x6_1 + 1)) a0_0 a0_1 a0_2 l0_3) else (none)) = some (r1, r2) := H
           have A24 := Ax.mk A240
           clear A240
           by_cases c25 : x5_1.size + t218.size + t220.size ≤ 9223372036854775807
           ·rw [if_pos c25] at H
            have c25b0 := eq_true c25
            have c25b1 : decide (x5_1.size + t218.size + t220.size ≤ 9223372036854775807) = true := decide_eq_true c25
            try have c25b2 : (9223372036854775807 < x5_1.size + t218.size + t220.size) = False := eq_false (Nat.not_lt.2 c25)
            have H' := Ax.mk H
            clear H
            have hcz26_0 : wr.cell? ⟨gb211, 0, none⟩ = some (.int .u64 a0_0) := (bC BK211.out 0).trans rfl
            have hcz26_1 : wr.cell? ⟨gb211, 1, none⟩ = some (.int .i64 a0_1) := (bC BK211.out 1).trans rfl
            have hcz26_2 : wr.cell? ⟨gb211, 2, none⟩ = some (.int .i64 a0_2) := (bC BK211.out 2).trans rfl
            have hcz26_3 : wr.cell? ⟨gb211, 3, none⟩ = some (.slice A0_3 l0_3.length c0_3) := (bC BK211.out 3).trans rfl
            have hfz26_0 := bF BK211.out 0
            have hfz26_1 := bF BK211.out 1
            have hfz26_2 := bF BK211.out 2
            have hfz26_3 := bF BK211.out 3
            try go_wp2
            have n0_ := Ax.mk (blk_drew BK211.out)
            have n1_ := Ax.mk (below_drew1 HB.out)
            clear BK211
            clear HB
            have BK211 := n0_
            have HB := n1_
            clear n0_ n1_
            have p217 : 0 ≤ (x6_1 : Int) := of_decide_eq_true (by first | (with_reducible assumption) | assumption)
            have q217 : x6_1 < (l0_3.length : Int) := of_decide_eq_true (by first | (with_reducible assumption) | assumption)
            obtain ⟨ad217, e217, hx217_0, hx217_1⟩ := at_T53 HR0_3.out x6_1 p217 q217
            have hw217_1 := hx217_1
            have hw217_0 := hx217_0
            cases e217
            replace hx217_0 := (HB.out.cell (World.block_lt_of_cell? w _ hx217_0)).trans hx217_0
            replace hx217_1 := (HB.out.cell (World.block_lt_of_cell? w _ hx217_1)).trans hx217_1
            replace p217 := eq_true p217
            replace q217 := eq_true q217
            have p219 : 0 ≤ (x6_1 : Int) := of_decide_eq_true (by first | (with_reducible assumption) | assumption)
            have q219 : x6_1 < (l0_3.length : Int) := of_decide_eq_true (by first | (with_reducible assumption) | assumption)
            obtain ⟨ad219, e219, hx219_0, hx219_1⟩ := at_T53 HR0_3.out x6_1 p219 q219
            have hw219_1 := hx219_1
            have hw219_0 := hx219_0
            obtain rfl : ad217 = ad219 := (by injection e219)
            replace hx219_0 := (HB.out.cell (World.block_lt_of_cell? w _ hx219_0)).trans hx219_0
            replace hx219_1 := (HB.out.cell (World.block_lt_of_cell? w _ hx219_1)).trans hx219_1
            replace p219 := eq_true p219
            replace q219 := eq_true q219
            refine start_ (n := 20) (S := fun w' => w'.cell? ⟨gb211, 0, none⟩ = some (.int .u64 a0_0) ∧ w'.cell? ⟨gb211, 1, none⟩ = some (.int .i64 a0_1) ∧ w'.cell? ⟨gb211, 2, none⟩ = some (.int .i64 a0_2) ∧ w'.cell? ⟨gb211, 3, none⟩ = some (.slice (some ad217) l0_3.length c0_3) ∧ w'.cell? (ad217.add ((x6_1).toNat * 2)) = some (.int .i64 ((rd_T53 l0_3 x6_1).f0)) ∧ w'.cell? ⟨(ad217.add ((x6_1).toNat * 2)).block, (ad217.add ((x6_1).toNat * 2)).off + 1, none⟩ = some (.int .i64 ((rd_T53 l0_3 x6_1).f1)) ∧ w'.cell? (ad217.add ((x6_1).toNat * 2)) = some (.int .i64 ((rd_T53 l0_3 x6_1).f0)) ∧ w'.cell? ⟨(ad217.add ((x6_1).toNat * 2)).block, (ad217.add ((x6_1).toNat * 2)).off + 1, none⟩ = some (.int .i64 ((rd_T53 l0_3 x6_1).f1))) (ds := []) #[false, false, false, false, false, false, false, false, false, false, false, false, false, false, false, false, false, false, false, false] (by kernel_rfl) rfl rfl ⟨(bC BK211.out 0).trans rfl, (bC BK211.out 1).trans rfl, (bC BK211.out 2).trans rfl, (bC BK211.out 3).trans rfl, ((HB.out.cell (World.block_lt_of_cell? w _ hw217_0)).trans hw217_0), ((HB.out.cell (World.block_lt_of_cell? w _ hw217_1)).trans hw217_1), ((HB.out.cell (World.block_lt_of_cell? w _ hw219_0)).trans hw219_0), ((HB.out.cell (World.block_lt_of_cell? w _ hw219_1)).trans hw219_1)⟩ (fun hHeld => ?_); refine with_tabW r6_Put.tab8 r6_Put.bits8 (fun HT_ HW_ => ?_)
            generalize wr.drew = w27 at BK211 HB hx217_0 hx217_1 hx219_0 hx219_1 hHeld ⊢
            refine pure_ (i := 0) (N := some 38) (v := ?_) (a' := ?_) #[true, false, false, false, false, false, false, false, false, false, false, false, false, false, false, false, false, false, false, false] rfl rfl (any_of HT_.out (by kernel_rfl)) (fun _ _ _ h => h) (Or.inl ⟨by rfl, ?_⟩) ?_ ?_
            rotate_left
            ·intro w'
             go_simp
             with_reducible rfl
            rotate_left
            ·simp only [Act.put, setIfInBounds_toArray, set_cons_zero, set_cons_succ, i64_w, i32_w]
             rfl
            refine pure_ (i := 1) (N := some 39) (v := ?_) (a' := ?_) #[true, true, false, false, false, false, false, false, false, false, false, false, false, false, false, false, false, false, false, false] rfl rfl (any_of HT_.out (by kernel_rfl)) (fun _ _ _ h => h) (Or.inl ⟨by rfl, ?_⟩) ?_ ?_
            rotate_left
            ·intro w'
             go_simp
             with_reducible rfl
            rotate_left
            ·simp only [Act.put, setIfInBounds_toArray, set_cons_zero, set_cons_succ, i64_w, i32_w]
             rfl
            refine pure_ (i := 3) (N := some 41) (v := ?_) (a' := ?_) #[true, true, false, true, false, false, false, false, false, false, false, false, false, false, false, false, false, false, false, false] rfl rfl (any_of HT_.out (by kernel_rfl)) (fun _ _ _ h => h) (Or.inl ⟨by rfl, ?_⟩) ?_ ?_
            rotate_left
            ·intro w'
             go_simp
             with_reducible rfl
            rotate_left
            ·simp only [Act.put, setIfInBounds_toArray, set_cons_zero, set_cons_succ, i64_w, i32_w]
             rfl
            refine pure_ (i := 10) (N := some 48) (v := ?_) (a' := ?_) #[true, true, false, true, false, false, false, false, false, false, true, false, false, false, false, false, false, false, false, false] rfl rfl (any_of HT_.out (by kernel_rfl)) (fun _ _ _ h => h) (Or.inl ⟨by rfl, ?_⟩) ?_ ?_
            rotate_left
            ·intro w'
             go_simp
             with_reducible rfl
            rotate_left
            ·simp only [Act.put, setIfInBounds_toArray, set_cons_zero, set_cons_succ, i64_w, i32_w]
             rfl
            refine pure_ (i := 12) (N := some 50) (v := ?_) (a' := ?_) #[true, true, false, true, false, false, false, false, false, false, true, false, true, false, false, false, false, false, false, false] rfl rfl (any_of HT_.out (by kernel_rfl)) (fun _ _ _ h => h) (Or.inl ⟨by rfl, ?_⟩) ?_ ?_
            rotate_left
            ·intro w'
             go_simp
             with_reducible rfl
            rotate_left
            ·simp only [Act.put, setIfInBounds_toArray, set_cons_zero, set_cons_succ, i64_w, i32_w]
             rfl
            refine take_ (i := 2) (N := some 40) (v := ?_) (a' := ?_) #[true, true, true, true, false, false, false, false, false, false, true, false, true, false, false, false, false, false, false, false] rfl rfl (take_ofW HT_.out HW_.out (by kernel_rfl)) (fun _ _ _ h => h) (Or.inl ⟨by rfl, ?_⟩) hHeld ?_ ?_
            rotate_left
            ·rintro w' ⟨s0, s1, s2, s3, s4, s5, s6, s7⟩
             go_simp
             with_reducible rfl
            rotate_left
            ·simp only [Act.put, setIfInBounds_toArray, set_cons_zero, set_cons_succ, i64_w, i32_w]
             rfl
            refine pure_ (i := 4) (N := some 42) (v := ?_) (a' := ?_) #[true, true, true, true, true, false, false, false, false, false, true, false, true, false, false, false, false, false, false, false] rfl rfl (any_of HT_.out (by kernel_rfl)) (fun _ _ _ h => h) (Or.inl ⟨by rfl, ?_⟩) ?_ ?_
            rotate_left
            ·intro w'
             go_simp
             with_reducible rfl
            rotate_left
            ·simp only [Act.put, setIfInBounds_toArray, set_cons_zero, set_cons_succ, i64_w, i32_w]
             rfl
            refine pure_ (i := 5) (N := some 43) (v := ?_) (a' := ?_) #[true, true, true, true, true, true, false, false, false, false, true, false, true, false, false, false, false, false, false, false] rfl rfl (any_of HT_.out (by kernel_rfl)) (fun _ _ _ h => h) (Or.inl ⟨by rfl, ?_⟩) ?_ ?_
            rotate_left
            ·intro w'
             go_simp
             with_reducible rfl
            rotate_left
            ·simp only [Act.put, setIfInBounds_toArray, set_cons_zero, set_cons_succ, i64_w, i32_w]
             rfl
            refine take_ (i := 6) (N := some 44) (v := ?_) (a' := ?_) #[true, true, true, true, true, true, true, false, false, false, true, false, true, false, false, false, false, false, false, false] rfl rfl (take_ofW HT_.out HW_.out (by kernel_rfl)) (fun _ _ _ h => h) (Or.inl ⟨by rfl, ?_⟩) hHeld ?_ ?_
            rotate_left
            ·rintro w' ⟨s0, s1, s2, s3, s4, s5, s6, s7⟩
             go_simp
             with_reducible rfl
            rotate_left
            ·simp only [Act.put, setIfInBounds_toArray, set_cons_zero, set_cons_succ, i64_w, i32_w]
             rfl
            refine pure_ (i := 7) (N := some 45) (v := ?_) (a' := ?_) #[true, true, true, true, true, true, true, true, false, false, true, false, true, false, false, false, false, false, false, false] rfl rfl (any_of HT_.out (by kernel_rfl)) (fun _ _ _ h => h) (Or.inl ⟨by rfl, ?_⟩) ?_ ?_
            rotate_left
            ·intro w'
             go_simp
             with_reducible rfl
            rotate_left
            ·simp only [Act.put, setIfInBounds_toArray, set_cons_zero, set_cons_succ, i64_w, i32_w]
             rfl
            refine take_ (i := 11) (N := some 49) (v := ?_) (a' := ?_) #[true, true, true, true, true, true, true, true, false, false, true, true, true, false, false, false, false, false, false, false] rfl rfl (take_ofW HT_.out HW_.out (by kernel_rfl)) (fun _ _ _ h => h) (Or.inl ⟨by rfl, ?_⟩) hHeld ?_ ?_
            rotate_left
            ·rintro w' ⟨s0, s1, s2, s3, s4, s5, s6, s7⟩
             go_simp
             with_reducible rfl
            rotate_left
            ·simp only [Act.put, setIfInBounds_toArray, set_cons_zero, set_cons_succ, i64_w, i32_w]
             rfl
            refine pure_ (i := 13) (N := some 51) (v := ?_) (a' := ?_) #[true, true, true, true, true, true, true, true, false, false, true, true, true, true, false, false, false, false, false, false] rfl rfl (any_of HT_.out (by kernel_rfl)) (fun _ _ _ h => h) (Or.inl ⟨by rfl, ?_⟩) ?_ ?_
            rotate_left
            ·intro w'
             go_simp
             with_reducible rfl
            rotate_left
            ·simp only [Act.put, setIfInBounds_toArray, set_cons_zero, set_cons_succ, i64_w, i32_w]
             rfl
            refine pure_ (i := 14) (N := some 52) (v := ?_) (a' := ?_) #[true, true, true, true, true, true, true, true, false, false, true, true, true, true, true, false, false, false, false, false] rfl rfl (any_of HT_.out (by kernel_rfl)) (fun _ _ _ h => h) (Or.inl ⟨by rfl, ?_⟩) ?_ ?_
            rotate_left
            ·intro w'
             go_simp
             with_reducible rfl
            rotate_left
            ·simp only [Act.put, setIfInBounds_toArray, set_cons_zero, set_cons_succ, i64_w, i32_w]
             rfl
            refine take_ (i := 15) (N := some 53) (v := ?_) (a' := ?_) #[true, true, true, true, true, true, true, true, false, false, true, true, true, true, true, true, false, false, false, false] rfl rfl (take_ofW HT_.out HW_.out (by kernel_rfl)) (fun _ _ _ h => h) (Or.inl ⟨by rfl, ?_⟩) hHeld ?_ ?_
            rotate_left
            ·rintro w' ⟨s0, s1, s2, s3, s4, s5, s6, s7⟩
             go_simp
             with_reducible rfl
            rotate_left
            ·simp only [Act.put, setIfInBounds_toArray, set_cons_zero, set_cons_succ, i64_w, i32_w]
             rfl
            refine pure_ (i := 16) (N := some 54) (v := ?_) (a' := ?_) #[true, true, true, true, true, true, true, true, false, false, true, true, true, true, true, true, true, false, false, false] rfl rfl (any_of HT_.out (by kernel_rfl)) (fun _ _ _ h => h) (Or.inl ⟨by rfl, ?_⟩) ?_ ?_
            rotate_left
            ·intro w'
             go_simp
             with_reducible rfl
            rotate_left
            ·simp only [Act.put, setIfInBounds_toArray, set_cons_zero, set_cons_succ, i64_w, i32_w]
             rfl
            refine one_ (i := 8) (N := some 46) #[true, true, true, true, true, true, true, true, true, false, true, true, true, true, true, true, true, false, false, false] rfl rfl (one_of HT_.out (by kernel_rfl)) (by decide) (fun K hK => ?_)
            refine goes_ Tryd.func27 (by kernel_rfl) rfl #[.int .u64 (IntKind.u64.wrap ((rd_T53 l0_3 x6_1).f0)), .int .i64 2] (by rfl) rfl rfl (by (try simp only [List.map_toArray, List.map_cons, List.map_nil]); first | done | rfl | (simp only [List.length_drop, List.length_take]; rfl) | (rw [wrap_sum2 (by assumption)]; rfl)) ?_
            with_reducible refine (r2_Put.calls k1 (IntKind.u64.wrap ((rd_T53 l0_3 x6_1).f0)) 2 t218 _ A22.out).mono ?_
            rintro e w28 ⟨rfl, hb⟩
            refine ⟨_, rfl, ?_⟩
            have n0_ := Ax.mk (bB (bT BK211.out) hb)
            have n1_ := Ax.mk (bP bA hb)
            clear BK211
            clear HB
            have BK211 := n0_
            have HB := n1_
            clear n0_ n1_
            (try clear hb)
            (try clear hb2)
            (try clear hk)
            (try clear hi)
            refine hK.out _ _ ⟨(bC BK211.out 0).trans rfl, (bC BK211.out 1).trans rfl, (bC BK211.out 2).trans rfl, (bC BK211.out 3).trans rfl, ((HB.out.cell (World.block_lt_of_cell? w _ hw217_0)).trans hw217_0), ((HB.out.cell (World.block_lt_of_cell? w _ hw217_1)).trans hw217_1), ((HB.out.cell (World.block_lt_of_cell? w _ hw219_0)).trans hw219_0), ((HB.out.cell (World.block_lt_of_cell? w _ hw219_1)).trans hw219_1)⟩ (fun hHeld => ?_)
            clear hK K
            refine norm_ (a' := ?_) ?_ ?_
            rotate_left
            ·show Act.put _ (some 46) _ = _
             simp only [Act.put, setIfInBounds_toArray, set_cons_zero, set_cons_succ, i64_w, i32_w]
             rfl
            refine pure_ (i := 9) (N := some 47) (v := ?_) (a' := ?_) #[true, true, true, true, true, true, true, true, true, true, true, true, true, true, true, true, true, false, false, false] rfl rfl (any_of HT_.out (by kernel_rfl)) (fun _ _ _ h => h) (Or.inl ⟨by rfl, ?_⟩) ?_ ?_
            rotate_left
            ·intro w'
             go_simp
             with_reducible rfl
            rotate_left
            ·simp only [Act.put, setIfInBounds_toArray, set_cons_zero, set_cons_succ, i64_w, i32_w]
             rfl
            refine one_ (i := 17) (N := some 55) #[true, true, true, true, true, true, true, true, true, true, true, true, true, true, true, true, true, true, false, false] rfl rfl (one_of HT_.out (by kernel_rfl)) (by decide) (fun K hK => ?_)
            refine goes_ Tryd.func27 (by kernel_rfl) rfl #[.int .u64 (IntKind.u64.wrap ((rd_T53 l0_3 x6_1).f1)), .int .i64 2] (by rfl) rfl rfl (by (try simp only [List.map_toArray, List.map_cons, List.map_nil]); first | done | rfl | (simp only [List.length_drop, List.length_take]; rfl) | (rw [wrap_sum2 (by assumption)]; rfl)) ?_
            with_reducible refine (r2_Put.calls k1 (IntKind.u64.wrap ((rd_T53 l0_3 x6_1).f1)) 2 t220 _ A24.out).mono ?_
            rintro e w29 ⟨rfl, hb⟩
            refine ⟨_, rfl, ?_⟩
            have n0_ := Ax.mk (bB (bT BK211.out) hb)
            have n1_ := Ax.mk (bP bA hb)
            clear BK211
            clear HB
            have BK211 := n0_
            have HB := n1_
            clear n0_ n1_
            (try clear hb)
            (try clear hb2)
            (try clear hk)
            (try clear hi)
            refine hK.out _ _ ⟨(bC BK211.out 0).trans rfl, (bC BK211.out 1).trans rfl, (bC BK211.out 2).trans rfl, (bC BK211.out 3).trans rfl, ((HB.out.cell (World.block_lt_of_cell? w _ hw217_0)).trans hw217_0), ((HB.out.cell (World.block_lt_of_cell? w _ hw217_1)).trans hw217_1), ((HB.out.cell (World.block_lt_of_cell? w _ hw219_0)).trans hw219_0), ((HB.out.cell (World.block_lt_of_cell? w _ hw219_1)).trans hw219_1)⟩ (fun hHeld => ?_)
            clear hK K
            refine norm_ (a' := ?_) ?_ ?_
            rotate_left
            ·show Act.put _ (some 55) _ = _
             simp only [Act.put, setIfInBounds_toArray, set_cons_zero, set_cons_succ, i64_w, i32_w]
             rfl
            refine pure_ (i := 18) (N := some 56) (v := ?_) (a' := ?_) #[true, true, true, true, true, true, true, true, true, true, true, true, true, true, true, true, true, true, true, false] rfl rfl (any_of HT_.out (by kernel_rfl)) (fun _ _ _ h => h) (Or.inl ⟨by rfl, ?_⟩) ?_ ?_
            rotate_left
            ·intro w'
             go_simp
             with_reducible rfl
            rotate_left
            ·simp only [Act.put, setIfInBounds_toArray, set_cons_zero, set_cons_succ, i64_w, i32_w]
             rfl
            refine pure_ (i := 19) (N := some 5) (v := ?_) (a' := ?_) #[true, true, true, true, true, true, true, true, true, true, true, true, true, true, true, true, true, true, true, true] rfl rfl (any_of HT_.out (by kernel_rfl)) (fun _ _ _ h => h) (Or.inl ⟨by rfl, ?_⟩) ?_ ?_
            rotate_left
            ·intro w'
             go_simp
             with_reducible rfl
            rotate_left
            ·simp only [Act.put, setIfInBounds_toArray, set_cons_zero, set_cons_succ, i64_w, i32_w]
             rfl
            refine done_ (done_of HT_.out (by kernel_rfl)) ?_
            try go_wp2
            go_roundg k1
            case measure => have := HK1.out; omega
            case rel => exact ⟨((x5_1 ++ t218) ++ t220), (wrap64 (x6_1 + 1)), (by first | rfl | (simp; done) | (simp [*]; done)), (by first | rfl | (simp; done) | (simp [*]; done)), H', ⟨by have := HK1.out; omega⟩, ⟨by refine bT ?_; exact BK211.out⟩, ⟨bA⟩⟩
           ·rw [if_neg c25] at H
            exact absurd H (by simp)
          ·rw [if_neg c23] at H
           exact absurd H (by simp)
         ·rw [if_neg c21] at H
          exact absurd H (by simp)
        ·rw [if_neg c20] at H
         have c20b0 : decide (x6_1 < (l0_3.length : Int)) = false := decide_eq_false c20
         clear c20
         have H' := Ax.mk H
         clear H
         have hcz30_0 : wr.cell? ⟨gb211, 0, none⟩ = some (.int .u64 a0_0) := (bC BK211.out 0).trans rfl
         have hcz30_1 : wr.cell? ⟨gb211, 1, none⟩ = some (.int .i64 a0_1) := (bC BK211.out 1).trans rfl
         have hcz30_2 : wr.cell? ⟨gb211, 2, none⟩ = some (.int .i64 a0_2) := (bC BK211.out 2).trans rfl
         have hcz30_3 : wr.cell? ⟨gb211, 3, none⟩ = some (.slice A0_3 l0_3.length c0_3) := (bC BK211.out 3).trans rfl
         have hfz30_0 := bF BK211.out 0
         have hfz30_1 := bF BK211.out 1
         have hfz30_2 := bF BK211.out 2
         have hfz30_3 := bF BK211.out 3
         go_wp2
         go_loopg [5] k1 (fun kq v5 w' => ∃ (x5_2 : ByteArray), v5 = .string x5_2 ∧ Ax (r6_Put.l1 kq x5_2 = some (r1, r2)) ∧ Ax (kq ≤ k1) ∧ Ax (w'.heap[gb211]? = some (.cells #[.int .u64 a0_0, .int .i64 a0_1, .int .i64 a0_2, (.slice A0_3 l0_3.length c0_3)] 31 (0, 0))) ∧ Ax (Below w.heap.size w w'))
         case atStart => exact ⟨(x5_1), (by first | rfl | (simp; done) | (simp [*]; done)), H', ⟨Nat.le_refl _⟩, ⟨by refine bT ?_; exact BK211.out⟩, ⟨bA⟩⟩
         case round =>
          clear H'
          try clear c1
          try clear c2
          try clear p2
          try clear q2
          try clear hx2
          try clear c3
          try clear c5
          try clear c5b0
          try clear c5b1
          try clear c5b2
          try clear p6
          try clear c7
          try clear c7b0
          try clear c7b1
          try clear c7b2
          try clear c9
          try clear c9b0
          try clear c9b1
          try clear c9b2
          try clear c11
          try clear c11b0
          try clear c11b1
          try clear c11b2
          try clear c14
          try clear c20
          try clear c20b0
          try clear c21
          try clear c21b0
          try clear p21
          try clear q21
          try clear hx21
          try clear c23
          try clear c23b0
          try clear c23b1
          try clear c23b2
          try clear c25
          try clear c25b0
          try clear c25b1
          try clear c25b2
          try clear c27
          try clear hcz13_0
          try clear hcz13_1
          try clear hcz13_2
          try clear hcz13_3
          try clear hcz26_0
          try clear hcz26_1
          try clear hcz26_2
          try clear hcz26_3
          try clear hcz30_0
          try clear hcz30_1
          try clear hcz30_2
          try clear hcz30_3
          try clear hfz13_0
          try clear hfz13_1
          try clear hfz13_2
          try clear hfz13_3
          try clear hfz26_0
          try clear hfz26_1
          try clear hfz26_2
          try clear hfz26_3
          try clear hfz30_0
          try clear hfz30_1
          try clear hfz30_2
          try clear hfz30_3
          try clear hx217_0
          try clear hx217_1
          try clear hx219_0
          try clear hx219_1
          try clear p2
          try clear p217
          try clear p219
          try clear q217
          try clear q219
          obtain ⟨x5_2, rfl, HA, HK2, BK211, HB⟩ := hrel
          cases gk with
          | zero => exact absurd HA.out (by simp [r6_Put.l1])
          | succ k2 =>
           have H := HA.out
           clear HA
           simp only [r6_Put.l1] at H
           by_cases c31 : (x5_2.size : Int) < 60
           ·rw [if_pos c31] at H
            have c31b0 : decide ((x5_2.size : Int) < 60) = true := decide_eq_true c31
            have c31b1 : decide (x5_2.size < 60) = true := decide_eq_true (by omega)
            clear c31
            by_cases c32 : x5_2.size + 1 ≤ 9223372036854775807
            ·rw [if_pos c32] at H
             have c32b0 := eq_true c32
             have c32b1 : decide (x5_2.size + 1 ≤ 9223372036854775807) = true := decide_eq_true c32
             try have c32b2 : (9223372036854775807 < x5_2.size + 1) = False := eq_false (Nat.not_lt.2 c32)
             have H' := Ax.mk H
             clear H
             go_wp2
             go_roundg k2
             case measure => have := HK1.out; have := HK2.out; omega
             case rel => exact ⟨(x5_2 ++ (⟨#[0]⟩ : ByteArray)), (by first | rfl | (simp; done) | (simp [*]; done)), H', ⟨by have := HK1.out; have := HK2.out; omega⟩, ⟨by refine bT ?_; exact BK211.out⟩, ⟨bA⟩⟩
            ·rw [if_neg c32] at H
             exact absurd H (by simp)
           ·rw [if_neg c31] at H
            have c31b0 : decide ((x5_2.size : Int) < 60) = false := decide_eq_false c31
            have c31b1 : decide (x5_2.size < 60) = false := decide_eq_false (by omega)
            clear c31
            replace H := Option.bind_eq_some_iff.mp H
            obtain ⟨t221, A330, H⟩ := H
            replace H : (some (t221, 0)) = some (r1, r2) := H
            have A33 := Ax.mk A330
            clear A330
            simp only [Option.some.injEq, Prod.mk.injEq] at H
            obtain ⟨rfl, rfl⟩ := H
            go_wp2_with (first | ((with_reducible refine gate_callee (f := 15) rfl ?_); refine goesL_ (some 63) rfl rfl Tryd.func15 (by kernel_rfl) rfl #[.string x5_2] rfl (by (try simp only [List.map_toArray, List.map_cons, List.map_nil]); first | done | rfl | (simp only [List.length_drop, List.length_take]; rfl) | (rw [wrap_sum2 (by assumption)]; rfl)) ?_; (with_reducible refine (r3_Put.calls k2 x5_2 t221 _ A33.out).mono ?_); rintro e w34 ⟨rfl, hb⟩; refine ⟨_, rfl, ?_⟩; have n0_ := Ax.mk (bB (bT BK211.out) hb); have n1_ := Ax.mk (bP bA hb); clear BK211; clear HB; have BK211 := n0_; have HB := n1_; clear n0_ n1_; (try clear hb); (try clear hb2); (try clear hk); (try clear hi)))
            go_ret2
            exact ⟨by first | rfl | (simp [errW_none, errW_some] <;> rfl) | (simp [*, errW_none, errW_some] <;> rfl), bA⟩
     ·rw [if_neg c11] at H
      exact absurd H (by simp)
    ·rw [if_neg c9] at H
     exact absurd H (by simp)
   ·rw [if_neg c7] at H
    exact absurd H (by simp)
  ·rw [if_neg c5] at H
   exact absurd H (by simp)
 ·replace c3 := Bool.eq_false_iff.mpr c3
  subst c3
  have H1 : (some ((⟨#[]⟩ : ByteArray), 1)) = some (r1, r2) := by rw [if_neg (show ¬ (false = true) by decide)] at H; exact H
  clear H
  have H := H1
  clear H1
  simp only [Option.some.injEq, Prod.mk.injEq] at H
  obtain ⟨rfl, rfl⟩ := H
  go_enter Tryd.func11, Tryd.ntmps11
  go_wp2_with (first | ((with_reducible refine gate_dst (N := 1) rfl ?_); refine box_event ?hg (N := 1) ?hd (cs := #[.int .u64 a0_0, .int .i64 a0_1, .int .i64 a0_2, .slice A0_3 l0_3.length c0_3]) (t := 31) ?hr ?_; (case hd => rfl); (case hg => rfl); (case hr => first | (go_simp; done) | (go_simp; rfl)); intro gb211 hg w35 hbox hb; have n0_ := Ax.mk (bP bA hb); have n1_ := Ax.mk (hbox); have n2_ := Ax.mk ((ge_new hg : w.heap.size ≤ gb211)); have n3_ := n2_; clear HB; have HB := n0_; have BK211 := n1_; have GW211 := n2_; have GE211 := n3_; clear n0_ n1_ n2_ n3_; clear hb hbox hg; have hcz36_0 : w35.cell? ⟨gb211, 0, none⟩ = some (.int .u64 a0_0) := (bC BK211.out 0).trans rfl; have hcz36_1 : w35.cell? ⟨gb211, 1, none⟩ = some (.int .i64 a0_1) := (bC BK211.out 1).trans rfl; have hcz36_2 : w35.cell? ⟨gb211, 2, none⟩ = some (.int .i64 a0_2) := (bC BK211.out 2).trans rfl; have hcz36_3 : w35.cell? ⟨gb211, 3, none⟩ = some (.slice A0_3 l0_3.length c0_3) := (bC BK211.out 3).trans rfl; have hfz36_0 := bF BK211.out 0; have hfz36_1 := bF BK211.out 1; have hfz36_2 := bF BK211.out 2; have hfz36_3 := bF BK211.out 3) | ((with_reducible refine gate_callee (f := 14) rfl ?_); refine goesL_ (some 8) rfl rfl Tryd.func14 (by kernel_rfl) rfl #[.agg #[.int .u64 a0_0, .int .i64 a0_1, .int .i64 a0_2, .slice A0_3 l0_3.length c0_3]] rfl (by (try simp only [List.map_toArray, List.map_cons, List.map_nil]); first | done | rfl | (simp only [List.length_drop, List.length_take]; rfl) | (rw [wrap_sum2 (by assumption)]; rfl)) ?_; (with_reducible refine (r6_Right.calls k a0_0 a0_1 a0_2 _ _ l0_3 false _ ?side1 ?side2 A2.out).mono ?_); (case side1 => repeat (first | exact (Kd.C_below HR0_3.out HB.out) | (with_reducible refine Kd.C_alloc ?_ _) | (with_reducible refine Kd.C_drewN ?_ _) | (with_reducible refine Kd.C_drew ?_))); (case side2 => exact HC0_3.out); rintro e w37 ⟨rfl, hb⟩; refine ⟨_, rfl, ?_⟩; have n0_ := Ax.mk (bB (bT BK211.out) hb); have n1_ := Ax.mk (bP bA hb); clear BK211; clear HB; have BK211 := n0_; have HB := n1_; clear n0_ n1_; (try clear hb); (try clear hb2); (try clear hk); (try clear hi)))
  go_ret2
  exact ⟨by first | rfl | (simp [errW_none, errW_some] <;> rfl) | (simp [*, errW_none, errW_some] <;> rfl), bA⟩
def seal_Take.f (a0 : ByteArray) : Option (ByteArray × Int) := if (wrap64 ((a0.size : Int) - 4)) < 0 then (some ((⟨#[]⟩ : ByteArray), 10)) else (if 0 ≤ (wrap64 ((a0.size : Int) - 4)) then (if (wrap64 ((a0.size : Int) - 4)) ≤ (a0.size : Int) then ((le_Get.f (a0.extract ((wrap64 ((a0.size : Int) - 4)) : Int).toNat a0.size)).bind fun t110 => ((seal_Sum.f (a0.extract 0 ((wrap64 ((a0.size : Int) - 4)) : Int).toNat)).bind fun t111 => (if t110 = (IntKind.u64.wrap (t111)) then (some (a0.extract 0 ((wrap64 ((a0.size : Int) - 4)) : Int).toNat, 0)) else (some ((⟨#[]⟩ : ByteArray), 9))))) else (none)) else (none))
def seal_Take.T4 : Bool × List (List Nat × List Nat) := (true, [([], []), ([], []), ([0, 1], [0, 1]), ([2], [2]), ([], []), ([], []), ([4, 5], [4, 5]), ([6, 3], [6]), ([7], [7]), ([3, 8], [3, 8]), ([9, 7], [9])])
def seal_Take.B4 : List Nat := [0, 0, 3, 7, 0, 0, 48, 127, 255, 511, 1023]
theorem seal_Take.tab4 : rtab .any (opsOf Tryd.f37 4) = seal_Take.T4 := by kernel_rfl
theorem seal_Take.bits4 : waitsOk seal_Take.T4.2 seal_Take.B4 = true := by kernel_rfl
set_option maxHeartbeats 8000000 in
set_option maxRecDepth 100000 in
theorem seal_Take.calls (a0 : ByteArray) (r1 : ByteArray) (r2 : Int) (w : World) (h : seal_Take.f a0 = some (r1, r2)) :
  Calls Tryd.prog 37 #[.string a0] w fun e w' => e = .returned (.tuple #[.string r1, .int .i64 r2]) ∧ Below w.heap.size w w' := by
 have HB := Ax.mk (Below.refl w.heap.size w)
 have H : (if (wrap64 ((a0.size : Int) - 4)) < 0 then (some ((⟨#[]⟩ : ByteArray), 10)) else (if 0 ≤ (wrap64 ((a0.size : Int) - 4)) then (if (wrap64 ((a0.size : Int) - 4)) ≤ (a0.size : Int) then ((le_Get.f (a0.extract ((wrap64 ((a0.size : Int) - 4)) : Int).toNat a0.size)).bind fun t110 => ((seal_Sum.f (a0.extract 0 ((wrap64 ((a0.size : Int) - 4)) : Int).toNat)).bind fun t111 => (if t110 = (IntKind.u64.wrap (t111)) then (some (a0.extract 0 ((wrap64 ((a0.size : Int) - 4)) : Int).toNat, 0)) else (some ((⟨#[]⟩ : ByteArray), 9))))) else (none)) else (none))) = some (r1, r2) := h
 clear h
 by_cases c2 : (wrap64 ((a0.size : Int) - 4)) < 0
 ·rw [if_pos c2] at H
  have c2b0 : decide ((wrap64 ((a0.size : Int) - 4)) < 0) = true := decide_eq_true c2
  clear c2
  simp only [Option.some.injEq, Prod.mk.injEq] at H
  obtain ⟨rfl, rfl⟩ := H
  go_enter Tryd.func37, Tryd.ntmps37
  go_wp2
  go_ret2
  exact ⟨by first | rfl | (simp [errW_none, errW_some] <;> rfl) | (simp [*, errW_none, errW_some] <;> rfl), bA⟩
 ·rw [if_neg c2] at H
  have c2b0 : decide ((wrap64 ((a0.size : Int) - 4)) < 0) = false := decide_eq_false c2
  clear c2
  obtain ⟨ji3, hji3⟩ : ∃ j_ : Int, (wrap64 ((a0.size : Int) - 4)) = j_ := ⟨_, rfl⟩
  replace H : (if 0 ≤ (ji3) then (if (ji3) ≤ (a0.size : Int) then ((le_Get.f (a0.extract ((ji3) : Int).toNat a0.size)).bind fun t110 => ((seal_Sum.f (a0.extract 0 ((ji3) : Int).toNat)).bind fun t111 => (if t110 = (IntKind.u64.wrap (t111)) then (some (a0.extract 0 ((ji3) : Int).toNat, 0)) else (some ((⟨#[]⟩ : ByteArray), 9))))) else (none)) else (none)) = some (r1, r2) := by first | (rw [hji3] at H; exact H) | (simp only [hji3] at H ⊢; exact H)
  (try rw [hji3] at c2b0)
  have hji3w : (IntKind.i64.wrap ((a0.size : Int) - 4)) = ji3 := (i64_w _).trans hji3
  by_cases c4 : 0 ≤ (ji3)
  ·rw [if_pos c4] at H
   have c4b0 := eq_true c4
   have c4b1 : decide (0 ≤ (ji3)) = true := decide_eq_true c4
   clear c4
   by_cases c5 : (ji3) ≤ (a0.size : Int)
   ·rw [if_pos c5] at H
    have c5b0 := eq_true c5
    have c5b1 : decide ((ji3) ≤ (a0.size : Int)) = true := decide_eq_true c5
    clear c5
    replace H := Option.bind_eq_some_iff.mp H
    obtain ⟨t110, A60, H⟩ := H
    replace H : ((seal_Sum.f (a0.extract 0 ((ji3) : Int).toNat)).bind fun t111 => (if t110 = (IntKind.u64.wrap (t111)) then (some (a0.extract 0 ((ji3) : Int).toNat, 0)) else (some ((⟨#[]⟩ : ByteArray), 9)))) = some (r1, r2) := H
    have A6 := Ax.mk A60
    clear A60
    have c7b0 := eq_true (of_decide_eq_true (by first | (with_reducible assumption) | assumption) : 0 ≤ (ji3))
    have c8b0 := eq_true (of_decide_eq_true (by first | (with_reducible assumption) | assumption) : (ji3) ≤ (a0.size : Int))
    replace H := Option.bind_eq_some_iff.mp H
    obtain ⟨t111, A90, H⟩ := H
    replace H : (if t110 = (IntKind.u64.wrap (t111)) then (some (a0.extract 0 ((ji3) : Int).toNat, 0)) else (some ((⟨#[]⟩ : ByteArray), 9))) = some (r1, r2) := H
    have A9 := Ax.mk A90
    clear A90
    by_cases c10 : t110 = (IntKind.u64.wrap (t111))
    ·rw [if_pos c10] at H
     have c10b0 : (t110 == (IntKind.u64.wrap (t111))) = true := beq_iff_eq.mpr c10
     have c10b1 : (t110 != (IntKind.u64.wrap (t111))) = false := bne_eq_false_iff_eq.mpr c10
     clear c10
     have c11b0 := eq_true (of_decide_eq_true (by first | (with_reducible assumption) | assumption) : 0 ≤ (ji3))
     have c12b0 := eq_true (of_decide_eq_true (by first | (with_reducible assumption) | assumption) : (ji3) ≤ (a0.size : Int))
     simp only [Option.some.injEq, Prod.mk.injEq] at H
     obtain ⟨rfl, rfl⟩ := H
     go_enter Tryd.func37, Tryd.ntmps37
     try go_wp2
     have n0_ := Ax.mk (below_drew1 HB.out)
     clear HB
     have HB := n0_
     clear n0_
     refine start_ (n := 11) (S := fun w' => True) (ds := []) #[false, false, false, false, false, false, false, false, false, false, false] (by kernel_rfl) rfl rfl trivial (fun hHeld => ?_); refine with_tabW seal_Take.tab4 seal_Take.bits4 (fun HT_ HW_ => ?_)
     generalize w.drew = w13 at HB hHeld ⊢
     refine pure_ (i := 0) (N := some 12) (v := ?_) (a' := ?_) #[true, false, false, false, false, false, false, false, false, false, false] rfl rfl (any_of HT_.out (by kernel_rfl)) (fun _ _ _ h => h) (Or.inl ⟨by rfl, ?_⟩) ?_ ?_
     rotate_left
     ·intro w'
      go_simp
      with_reducible rfl
     rotate_left
     ·simp only [Act.put, setIfInBounds_toArray, set_cons_zero, set_cons_succ, i64_w, i32_w]
      rfl
     refine pure_ (i := 1) (N := some 13) (v := ?_) (a' := ?_) #[true, true, false, false, false, false, false, false, false, false, false] rfl rfl (any_of HT_.out (by kernel_rfl)) (fun _ _ _ h => h) (Or.inl ⟨by rfl, ?_⟩) ?_ ?_
     rotate_left
     ·intro w'
      go_simp
      with_reducible rfl
     rotate_left
     ·simp only [Act.put, setIfInBounds_toArray, set_cons_zero, set_cons_succ, i64_w, i32_w]
      rfl
     refine pure_ (i := 2) (N := some 14) (v := ?_) (a' := ?_) #[true, true, true, false, false, false, false, false, false, false, false] rfl rfl (any_of HT_.out (by kernel_rfl)) (fun _ _ _ h => h) (Or.inl ⟨by rfl, ?_⟩) ?_ ?_
     rotate_left
     ·intro w'
      go_simp
      with_reducible rfl
     rotate_left
     ·simp only [Act.put, setIfInBounds_toArray, set_cons_zero, set_cons_succ, i64_w, i32_w]
      rfl
     refine pure_ (i := 4) (N := some 16) (v := ?_) (a' := ?_) #[true, true, true, false, true, false, false, false, false, false, false] rfl rfl (any_of HT_.out (by kernel_rfl)) (fun _ _ _ h => h) (Or.inl ⟨by rfl, ?_⟩) ?_ ?_
     rotate_left
     ·intro w'
      go_simp
      with_reducible rfl
     rotate_left
     ·simp only [Act.put, setIfInBounds_toArray, set_cons_zero, set_cons_succ, i64_w, i32_w]
      rfl
     refine pure_ (i := 5) (N := some 17) (v := ?_) (a' := ?_) #[true, true, true, false, true, true, false, false, false, false, false] rfl rfl (any_of HT_.out (by kernel_rfl)) (fun _ _ _ h => h) (Or.inl ⟨by rfl, ?_⟩) ?_ ?_
     rotate_left
     ·intro w'
      go_simp
      with_reducible rfl
     rotate_left
     ·simp only [Act.put, setIfInBounds_toArray, set_cons_zero, set_cons_succ, i64_w, i32_w]
      rfl
     refine pure_ (i := 6) (N := some 18) (v := ?_) (a' := ?_) #[true, true, true, false, true, true, true, false, false, false, false] rfl rfl (any_of HT_.out (by kernel_rfl)) (fun _ _ _ h => h) (Or.inl ⟨by rfl, ?_⟩) ?_ ?_
     rotate_left
     ·intro w'
      go_simp
      with_reducible rfl
     rotate_left
     ·simp only [Act.put, setIfInBounds_toArray, set_cons_zero, set_cons_succ, i64_w, i32_w]
      rfl
     refine one_ (i := 3) (N := some 15) #[true, true, true, true, true, true, true, false, false, false, false] rfl rfl (one_of HT_.out (by kernel_rfl)) (by decide) (fun K hK => ?_)
     refine goes_ Tryd.func54 (by kernel_rfl) rfl #[.string (a0.extract ((ji3) : Int).toNat a0.size)] (by rfl) rfl rfl (by (try simp only [List.map_toArray, List.map_cons, List.map_nil]); first | done | (simp only [hji3]; rfl) | rfl | (simp only [List.length_drop, List.length_take]; rfl) | (rw [wrap_sum2 (by assumption)]; rfl)) ?_
     with_reducible refine (le_Get.calls (a0.extract ((ji3) : Int).toNat a0.size) t110 _ A6.out).mono ?_
     rintro e w14 ⟨rfl, hb⟩
     refine ⟨_, rfl, ?_⟩
     have n0_ := Ax.mk (bP bA hb)
     clear HB
     have HB := n0_
     clear n0_
     (try clear hb)
     (try clear hb2)
     (try clear hk)
     (try clear hi)
     refine hK.out _ _ trivial (fun hHeld => ?_)
     clear hK K
     refine norm_ (a' := ?_) ?_ ?_
     rotate_left
     ·show Act.put _ (some 15) _ = _
      simp only [Act.put, setIfInBounds_toArray, set_cons_zero, set_cons_succ, i64_w, i32_w]
      rfl
     refine one_ (i := 7) (N := some 19) #[true, true, true, true, true, true, true, true, false, false, false] rfl rfl (one_of HT_.out (by kernel_rfl)) (by decide) (fun K hK => ?_)
     refine goes_ Tryd.func49 (by kernel_rfl) rfl #[.string (a0.extract 0 ((ji3) : Int).toNat)] (by rfl) rfl rfl (by (try simp only [List.map_toArray, List.map_cons, List.map_nil]); first | done | (simp only [hji3]; rfl) | rfl | (simp only [List.length_drop, List.length_take]; rfl) | (rw [wrap_sum2 (by assumption)]; rfl)) ?_
     with_reducible refine (seal_Sum.calls (a0.extract 0 ((ji3) : Int).toNat) t111 _ A9.out).mono ?_
     rintro e w15 ⟨rfl, hb⟩
     refine ⟨_, rfl, ?_⟩
     have n0_ := Ax.mk (bP bA hb)
     clear HB
     have HB := n0_
     clear n0_
     (try clear hb)
     (try clear hb2)
     (try clear hk)
     (try clear hi)
     refine hK.out _ _ trivial (fun hHeld => ?_)
     clear hK K
     refine norm_ (a' := ?_) ?_ ?_
     rotate_left
     ·show Act.put _ (some 19) _ = _
      simp only [Act.put, setIfInBounds_toArray, set_cons_zero, set_cons_succ, i64_w, i32_w]
      rfl
     refine pure_ (i := 8) (N := some 20) (v := ?_) (a' := ?_) #[true, true, true, true, true, true, true, true, true, false, false] rfl rfl (any_of HT_.out (by kernel_rfl)) (fun _ _ _ h => h) (Or.inl ⟨by rfl, ?_⟩) ?_ ?_
     rotate_left
     ·intro w'
      go_simp
      with_reducible rfl
     rotate_left
     ·simp only [Act.put, setIfInBounds_toArray, set_cons_zero, set_cons_succ, i64_w, i32_w]
      rfl
     refine pure_ (i := 9) (N := some 21) (v := ?_) (a' := ?_) #[true, true, true, true, true, true, true, true, true, true, false] rfl rfl (any_of HT_.out (by kernel_rfl)) (fun _ _ _ h => h) (Or.inl ⟨by rfl, ?_⟩) ?_ ?_
     rotate_left
     ·intro w'
      go_simp
      with_reducible rfl
     rotate_left
     ·simp only [Act.put, setIfInBounds_toArray, set_cons_zero, set_cons_succ, i64_w, i32_w]
      rfl
     refine pure_ (i := 10) (N := some 11) (v := ?_) (a' := ?_) #[true, true, true, true, true, true, true, true, true, true, true] rfl rfl (any_of HT_.out (by kernel_rfl)) (fun _ _ _ h => h) (Or.inl ⟨by rfl, ?_⟩) ?_ ?_
     rotate_left
     ·intro w'
      go_simp
      with_reducible rfl
     rotate_left
     ·simp only [Act.put, setIfInBounds_toArray, set_cons_zero, set_cons_succ, i64_w, i32_w]
      rfl
     refine done_ (done_of HT_.out (by kernel_rfl)) ?_
     try go_wp2
     go_ret2
     exact ⟨by first | rfl | (simp [errW_none, errW_some] <;> rfl) | (simp only [← hji3]; first | rfl | (simp [errW_none, errW_some] <;> rfl)) | (simp [*, errW_none, errW_some] <;> rfl), bA⟩
    ·rw [if_neg c10] at H
     have c10b0 : (t110 == (IntKind.u64.wrap (t111))) = false := beq_eq_false_iff_ne.mpr c10
     have c10b1 : (t110 != (IntKind.u64.wrap (t111))) = true := bne_iff_ne.mpr c10
     simp only [Option.some.injEq, Prod.mk.injEq] at H
     obtain ⟨rfl, rfl⟩ := H
     go_enter Tryd.func37, Tryd.ntmps37
     try go_wp2
     have n0_ := Ax.mk (below_drew1 HB.out)
     clear HB
     have HB := n0_
     clear n0_
     refine start_ (n := 11) (S := fun w' => True) (ds := []) #[false, false, false, false, false, false, false, false, false, false, false] (by kernel_rfl) rfl rfl trivial (fun hHeld => ?_); refine with_tabW seal_Take.tab4 seal_Take.bits4 (fun HT_ HW_ => ?_)
     generalize w.drew = w16 at HB hHeld ⊢
     refine pure_ (i := 0) (N := some 12) (v := ?_) (a' := ?_) #[true, false, false, false, false, false, false, false, false, false, false] rfl rfl (any_of HT_.out (by kernel_rfl)) (fun _ _ _ h => h) (Or.inl ⟨by rfl, ?_⟩) ?_ ?_
     rotate_left
     ·intro w'
      go_simp
      with_reducible rfl
     rotate_left
     ·simp only [Act.put, setIfInBounds_toArray, set_cons_zero, set_cons_succ, i64_w, i32_w]
      rfl
     refine pure_ (i := 1) (N := some 13) (v := ?_) (a' := ?_) #[true, true, false, false, false, false, false, false, false, false, false] rfl rfl (any_of HT_.out (by kernel_rfl)) (fun _ _ _ h => h) (Or.inl ⟨by rfl, ?_⟩) ?_ ?_
     rotate_left
     ·intro w'
      go_simp
      with_reducible rfl
     rotate_left
     ·simp only [Act.put, setIfInBounds_toArray, set_cons_zero, set_cons_succ, i64_w, i32_w]
      rfl
     refine pure_ (i := 2) (N := some 14) (v := ?_) (a' := ?_) #[true, true, true, false, false, false, false, false, false, false, false] rfl rfl (any_of HT_.out (by kernel_rfl)) (fun _ _ _ h => h) (Or.inl ⟨by rfl, ?_⟩) ?_ ?_
     rotate_left
     ·intro w'
      go_simp
      with_reducible rfl
     rotate_left
     ·simp only [Act.put, setIfInBounds_toArray, set_cons_zero, set_cons_succ, i64_w, i32_w]
      rfl
     refine pure_ (i := 4) (N := some 16) (v := ?_) (a' := ?_) #[true, true, true, false, true, false, false, false, false, false, false] rfl rfl (any_of HT_.out (by kernel_rfl)) (fun _ _ _ h => h) (Or.inl ⟨by rfl, ?_⟩) ?_ ?_
     rotate_left
     ·intro w'
      go_simp
      with_reducible rfl
     rotate_left
     ·simp only [Act.put, setIfInBounds_toArray, set_cons_zero, set_cons_succ, i64_w, i32_w]
      rfl
     refine pure_ (i := 5) (N := some 17) (v := ?_) (a' := ?_) #[true, true, true, false, true, true, false, false, false, false, false] rfl rfl (any_of HT_.out (by kernel_rfl)) (fun _ _ _ h => h) (Or.inl ⟨by rfl, ?_⟩) ?_ ?_
     rotate_left
     ·intro w'
      go_simp
      with_reducible rfl
     rotate_left
     ·simp only [Act.put, setIfInBounds_toArray, set_cons_zero, set_cons_succ, i64_w, i32_w]
      rfl
     refine pure_ (i := 6) (N := some 18) (v := ?_) (a' := ?_) #[true, true, true, false, true, true, true, false, false, false, false] rfl rfl (any_of HT_.out (by kernel_rfl)) (fun _ _ _ h => h) (Or.inl ⟨by rfl, ?_⟩) ?_ ?_
     rotate_left
     ·intro w'
      go_simp
      with_reducible rfl
     rotate_left
     ·simp only [Act.put, setIfInBounds_toArray, set_cons_zero, set_cons_succ, i64_w, i32_w]
      rfl
     refine one_ (i := 3) (N := some 15) #[true, true, true, true, true, true, true, false, false, false, false] rfl rfl (one_of HT_.out (by kernel_rfl)) (by decide) (fun K hK => ?_)
     refine goes_ Tryd.func54 (by kernel_rfl) rfl #[.string (a0.extract ((ji3) : Int).toNat a0.size)] (by rfl) rfl rfl (by (try simp only [List.map_toArray, List.map_cons, List.map_nil]); first | done | (simp only [hji3]; rfl) | rfl | (simp only [List.length_drop, List.length_take]; rfl) | (rw [wrap_sum2 (by assumption)]; rfl)) ?_
     with_reducible refine (le_Get.calls (a0.extract ((ji3) : Int).toNat a0.size) t110 _ A6.out).mono ?_
     rintro e w17 ⟨rfl, hb⟩
     refine ⟨_, rfl, ?_⟩
     have n0_ := Ax.mk (bP bA hb)
     clear HB
     have HB := n0_
     clear n0_
     (try clear hb)
     (try clear hb2)
     (try clear hk)
     (try clear hi)
     refine hK.out _ _ trivial (fun hHeld => ?_)
     clear hK K
     refine norm_ (a' := ?_) ?_ ?_
     rotate_left
     ·show Act.put _ (some 15) _ = _
      simp only [Act.put, setIfInBounds_toArray, set_cons_zero, set_cons_succ, i64_w, i32_w]
      rfl
     refine one_ (i := 7) (N := some 19) #[true, true, true, true, true, true, true, true, false, false, false] rfl rfl (one_of HT_.out (by kernel_rfl)) (by decide) (fun K hK => ?_)
     refine goes_ Tryd.func49 (by kernel_rfl) rfl #[.string (a0.extract 0 ((ji3) : Int).toNat)] (by rfl) rfl rfl (by (try simp only [List.map_toArray, List.map_cons, List.map_nil]); first | done | (simp only [hji3]; rfl) | rfl | (simp only [List.length_drop, List.length_take]; rfl) | (rw [wrap_sum2 (by assumption)]; rfl)) ?_
     with_reducible refine (seal_Sum.calls (a0.extract 0 ((ji3) : Int).toNat) t111 _ A9.out).mono ?_
     rintro e w18 ⟨rfl, hb⟩
     refine ⟨_, rfl, ?_⟩
     have n0_ := Ax.mk (bP bA hb)
     clear HB
     have HB := n0_
     clear n0_
     (try clear hb)
     (try clear hb2)
     (try clear hk)
     (try clear hi)
     refine hK.out _ _ trivial (fun hHeld => ?_)
     clear hK K
     refine norm_ (a' := ?_) ?_ ?_
     rotate_left
     ·show Act.put _ (some 19) _ = _
      simp only [Act.put, setIfInBounds_toArray, set_cons_zero, set_cons_succ, i64_w, i32_w]
      rfl
     refine pure_ (i := 8) (N := some 20) (v := ?_) (a' := ?_) #[true, true, true, true, true, true, true, true, true, false, false] rfl rfl (any_of HT_.out (by kernel_rfl)) (fun _ _ _ h => h) (Or.inl ⟨by rfl, ?_⟩) ?_ ?_
     rotate_left
     ·intro w'
      go_simp
      with_reducible rfl
     rotate_left
     ·simp only [Act.put, setIfInBounds_toArray, set_cons_zero, set_cons_succ, i64_w, i32_w]
      rfl
     refine pure_ (i := 9) (N := some 21) (v := ?_) (a' := ?_) #[true, true, true, true, true, true, true, true, true, true, false] rfl rfl (any_of HT_.out (by kernel_rfl)) (fun _ _ _ h => h) (Or.inl ⟨by rfl, ?_⟩) ?_ ?_
     rotate_left
     ·intro w'
      go_simp
      with_reducible rfl
     rotate_left
     ·simp only [Act.put, setIfInBounds_toArray, set_cons_zero, set_cons_succ, i64_w, i32_w]
      rfl
     refine pure_ (i := 10) (N := some 11) (v := ?_) (a' := ?_) #[true, true, true, true, true, true, true, true, true, true, true] rfl rfl (any_of HT_.out (by kernel_rfl)) (fun _ _ _ h => h) (Or.inl ⟨by rfl, ?_⟩) ?_ ?_
     rotate_left
     ·intro w'
      go_simp
      with_reducible rfl
     rotate_left
     ·simp only [Act.put, setIfInBounds_toArray, set_cons_zero, set_cons_succ, i64_w, i32_w]
      rfl
     refine done_ (done_of HT_.out (by kernel_rfl)) ?_
     try go_wp2
     go_ret2
     exact ⟨by first | rfl | (simp [errW_none, errW_some] <;> rfl) | (simp only [← hji3]; first | rfl | (simp [errW_none, errW_some] <;> rfl)) | (simp [*, errW_none, errW_some] <;> rfl), bA⟩
   ·rw [if_neg c5] at H
    exact absurd H (by simp)
  ·rw [if_neg c4] at H
   exact absurd H (by simp)
end Go.Proofs.YtcgejogmiglalaaDoor.Fn
end
section
namespace Go.Proofs.YtcgejogmiglalaaDoor.Fn
open Go.RowKit Go.Proofs.YtcgejogmiglalaaDoorW.PrintWords Go.Proofs.YtcgejogmiglalaaDoorW.PrintLast Go.Proofs.YtcgejogmiglalaaDoorW.PrintMore Go.Proofs.YtcgejogmiglalaaDoor.Lf
attribute [local go_sem] max2_int min2_int max_two min_two max_three min_three max_four min_four   -- for this text's walks alone
set_option linter.unusedVariables false
set_option linter.unusedSimpArgs false
def IsS74 (w0 W : World) (g : Nat) (f0 : ByteArray) (f1 : Bool) : Prop := W.heap[g]? = some (.cells #[.string f0, .bool f1] 74 (0, 0)) ∧ w0.heap.size ≤ g
theorem IsS74.grown {w0 W : World} {g : Nat} {f0 : ByteArray} {f1 : Bool} {W1 : World} {row : Option Nat} (h : IsS74 w0 W g f0 f1) (hw : W.grownBy W1 row) (hne : some g ≠ row) : IsS74 w0 W1 g f0 f1 := by
 obtain ⟨hb, hg⟩ := h
 exact ⟨blk_grown hb hw hne, hg⟩
theorem IsS74.kept {w0 W : World} {g : Nat} {f0 : ByteArray} {f1 : Bool} {W1 : World} {S : Nat → Prop} (h : IsS74 w0 W g f0 f1) (hk : Kept W W1 S) (hne : ¬ S g) : IsS74 w0 W1 g f0 f1 := by
 obtain ⟨hb, hg⟩ := h
 exact ⟨blk_kept hb hk hne, hg⟩
theorem IsS74.below {w0 W : World} {g : Nat} {f0 : ByteArray} {f1 : Bool} {W1 : World} (h : IsS74 w0 W g f0 f1) (hw : Below W.heap.size W W1) : IsS74 w0 W1 g f0 f1 := h.grown (grown_of_below hw none) (by simp)
theorem IsS74.alloc {w0 W : World} {g : Nat} {f0 : ByteArray} {f1 : Bool} (h : IsS74 w0 W g f0 f1) (o : Obj) : IsS74 w0 (W.alloc o) g f0 f1 := h.below (below_alloc (Below.refl _ _) o)
theorem IsS74.drewN {w0 W : World} {g : Nat} {f0 : ByteArray} {f1 : Bool} (h : IsS74 w0 W g f0 f1) (m : Nat) : IsS74 w0 (W.drewN m) g f0 f1 := h
theorem IsS74.drew {w0 W : World} {g : Nat} {f0 : ByteArray} {f1 : Bool} (h : IsS74 w0 W g f0 f1) : IsS74 w0 W.drew g f0 f1 := h
theorem IsS74.at_ {w0 W : World} {g : Nat} {f0 : ByteArray} {f1 : Bool} {w' : World} {m : Nat} (hq : W.drewN m = w') (h : IsS74 w0 W g f0 f1) : IsS74 w0 w' g f0 f1 := by subst hq; exact IsS74.drewN h m
theorem IsS74.apart {w0 W : World} {g : Nat} {f0 : ByteArray} {f1 : Bool} {α : Type} {d : Kd α} {e : Nat} {base : Nat} {ok : Nat → Prop} {v : Value} {xs : List α} (h : IsS74 w0 W g f0 f1) (ho : d.R e W base ok v xs) (ht : ∀ q, q ∈ e :: d.E → q ≠ 74) : d.R e W base (fun k => ok k ∧ k ≠ g) v xs := by
 obtain ⟨hb, hg⟩ := h
 exact Kd.R_types ho hb ht
theorem IsS74.own_ne {w0 W : World} {g : Nat} {f0 : ByteArray} {f1 : Bool} {α : Type} {d : Kd α} {e : Nat} {base : Nat} {ok : Nat → Prop} {v : Value} {xs : List α} (h : IsS74 w0 W g f0 f1) (ho : d.R e W base ok v xs) (ht : e ≠ 74) : some g ≠ v.ownBlock := by
 obtain ⟨hb, hg⟩ := h
 exact Kd.R_ne ho hb ht
theorem IsS74.ge {w0 W : World} {g : Nat} {f0 : ByteArray} {f1 : Bool} (h : IsS74 w0 W g f0 f1) : w0.heap.size ≤ g := by
 obtain ⟨hb, hg⟩ := h
 exact hg
theorem cellS74_0 {W : World} {g : Nat} {f0 : ByteArray} {f1 : Bool} (h : W.heap[g]? = some (.cells #[.string f0, .bool f1] 74 (0, 0))) : W.cell? ⟨g, 0, none⟩ = some (.string f0) := (bC h 0).trans rfl
theorem IsS74.set_0 {w0 W : World} {g : Nat} {f0 : ByteArray} {f1 : Bool} (h : IsS74 w0 W g f0 f1) (x : ByteArray) : IsS74 w0 (W.setCell ⟨g, 0, none⟩ (.string x)) g x f1 := by
 obtain ⟨hb, hg⟩ := h
 exact ⟨by simpa using blk_set hb 0 (.string x), hg⟩
theorem cellS74_1 {W : World} {g : Nat} {f0 : ByteArray} {f1 : Bool} (h : W.heap[g]? = some (.cells #[.string f0, .bool f1] 74 (0, 0))) : W.cell? ⟨g, 1, none⟩ = some (.bool f1) := (bC h 1).trans rfl
theorem IsS74.set_1 {w0 W : World} {g : Nat} {f0 : ByteArray} {f1 : Bool} (h : IsS74 w0 W g f0 f1) (x : Bool) : IsS74 w0 (W.setCell ⟨g, 1, none⟩ (.bool x)) g f0 x := by
 obtain ⟨hb, hg⟩ := h
 exact ⟨by simpa using blk_set hb 1 (.bool x), hg⟩
theorem IsS74.new (w0 W : World) (f0 : ByteArray) (f1 : Bool) (hB : Below w0.heap.size w0 W) : IsS74 w0 (W.alloc (.cells #[.string f0, .bool f1] 74)) W.heap.size f0 f1 := ⟨by simpa using heap_alloc_new W _, hB.size⟩
def le_Reader_Text.f (s0_0 : ByteArray) (s0_1 : Bool) (a1 : Int) : Option (ByteArray × ByteArray × Bool) := if s0_1 = true then (some ((⟨#[]⟩ : ByteArray), s0_0, true)) else (if a1 < 0 then (some ((⟨#[]⟩ : ByteArray), s0_0, true)) else (if a1 > (s0_0.size : Int) then (some ((⟨#[]⟩ : ByteArray), s0_0, decide (a1 > (s0_0.size : Int)))) else (if 0 ≤ a1 then (if a1 ≤ (s0_0.size : Int) then (some (s0_0.extract 0 (a1 : Int).toNat, s0_0.extract (a1 : Int).toNat s0_0.size, decide (a1 > (s0_0.size : Int)))) else (none)) else (none))))
set_option maxHeartbeats 8000000 in
set_option maxRecDepth 100000 in
theorem le_Reader_Text.calls (g : Nat) (s0_0 : ByteArray) (s0_1 : Bool) (a1 : Int) (r1 : ByteArray) (r2 : ByteArray) (r3 : Bool) (w0 w : World) (hI : IsS74 w0 w g s0_0 s0_1) (hB : Below w0.heap.size w0 w) (h : le_Reader_Text.f s0_0 s0_1 a1 = some (r1, r2, r3)) :
  Calls Tryd.prog 39 #[.pointer (some ⟨g, 0, none⟩), .int .i64 a1] w fun e w' => e = .returned (.string r1) ∧ IsS74 w0 w' g r2 r3 ∧ Below w0.heap.size w0 w' ∧ KeepBut w w' g none := by
 have HI0 := Ax.mk hI
 have HK := Ax.mk (KeepBut.refl w g none)
 have HL := Ax.mk hB.size
 clear hI
 have HW0 := Ax.mk hB.size
 have HB := Ax.mk hB
 clear hB
 have H : (if s0_1 = true then (some ((⟨#[]⟩ : ByteArray), s0_0, true)) else (if a1 < 0 then (some ((⟨#[]⟩ : ByteArray), s0_0, true)) else (if a1 > (s0_0.size : Int) then (some ((⟨#[]⟩ : ByteArray), s0_0, decide (a1 > (s0_0.size : Int)))) else (if 0 ≤ a1 then (if a1 ≤ (s0_0.size : Int) then (some (s0_0.extract 0 (a1 : Int).toNat, s0_0.extract (a1 : Int).toNat s0_0.size, decide (a1 > (s0_0.size : Int)))) else (none)) else (none))))) = some (r1, r2, r3) := h
 clear h
 by_cases c3 : s0_1 = true
 ·subst c3
  have H1 : (some ((⟨#[]⟩ : ByteArray), s0_0, true)) = some (r1, r2, r3) := by rw [if_pos rfl] at H; exact H
  clear H
  have H := H1
  clear H1
  simp only [Option.some.injEq, Prod.mk.injEq] at H
  obtain ⟨rfl, rfl, rfl⟩ := H
  obtain ⟨HGz4, hgz4⟩ := HI0.out
  have hcz4_0 := cellS74_0 HGz4
  have hcz4_1 := cellS74_1 HGz4
  have hfz4_0 := bF HGz4 0
  have hfz4_1 := bF HGz4 1
  clear HGz4 hgz4
  go_enter Tryd.func39, Tryd.ntmps39
  go_wp2
  go_ret
  exact ⟨by first | rfl | (simp [errW_none, errW_some] <;> rfl) | (simp [*, errW_none, errW_some] <;> rfl), by repeat (first | (with_reducible first | exact HI0.out | apply IsS74.alloc | apply IsS74.drewN | apply IsS74.drew | apply IsS74.set_0 | apply IsS74.set_1) | exact HI0.out), by repeat (first | (with_reducible first | exact HB.out | apply below_alloc | apply pw_below_drewN | apply below_drew1 | refine below_set ?_ (IsS74.ge HI0.out)) | exact HB.out), by repeat (first | (with_reducible first | exact HK.out | apply KeepBut.set_ | apply keep_drewN | apply keep_drew | apply keep_alloc) | exact HK.out)⟩
 ·replace c3 := Bool.eq_false_iff.mpr c3
  subst c3
  have H1 : (if a1 < 0 then (some ((⟨#[]⟩ : ByteArray), s0_0, true)) else (if a1 > (s0_0.size : Int) then (some ((⟨#[]⟩ : ByteArray), s0_0, decide (a1 > (s0_0.size : Int)))) else (if 0 ≤ a1 then (if a1 ≤ (s0_0.size : Int) then (some (s0_0.extract 0 (a1 : Int).toNat, s0_0.extract (a1 : Int).toNat s0_0.size, decide (a1 > (s0_0.size : Int)))) else (none)) else (none)))) = some (r1, r2, r3) := by rw [if_neg (show ¬ (false = true) by decide)] at H; exact H
  clear H
  have H := H1
  clear H1
  by_cases c5 : a1 < 0
  ·rw [if_pos c5] at H
   (try rw [decide_eq_true c5] at H)
   have c5b0 : decide (a1 < 0) = true := decide_eq_true c5
   clear c5
   simp only [Option.some.injEq, Prod.mk.injEq] at H
   obtain ⟨rfl, rfl, rfl⟩ := H
   obtain ⟨HGz6, hgz6⟩ := HI0.out
   have hcz6_0 := cellS74_0 HGz6
   have hcz6_1 := cellS74_1 HGz6
   have hfz6_0 := bF HGz6 0
   have hfz6_1 := bF HGz6 1
   clear HGz6 hgz6
   go_enter Tryd.func39, Tryd.ntmps39
   go_wp2
   go_ret
   exact ⟨by first | rfl | (simp [errW_none, errW_some] <;> rfl) | (simp [*, errW_none, errW_some] <;> rfl), by repeat (first | (with_reducible first | exact HI0.out | apply IsS74.alloc | apply IsS74.drewN | apply IsS74.drew | apply IsS74.set_0 | apply IsS74.set_1) | exact HI0.out), by repeat (first | (with_reducible first | exact HB.out | apply below_alloc | apply pw_below_drewN | apply below_drew1 | refine below_set ?_ (IsS74.ge HI0.out)) | exact HB.out), by repeat (first | (with_reducible first | exact HK.out | apply KeepBut.set_ | apply keep_drewN | apply keep_drew | apply keep_alloc) | exact HK.out)⟩
  ·rw [if_neg c5] at H
   (try rw [decide_eq_false c5] at H)
   have c5b0 : decide (a1 < 0) = false := decide_eq_false c5
   clear c5
   by_cases c7 : a1 > (s0_0.size : Int)
   ·rw [if_pos c7] at H
    (try rw [decide_eq_true c7] at H)
    have c7b0 : decide ((s0_0.size : Int) < a1) = true := decide_eq_true c7
    clear c7
    simp only [Option.some.injEq, Prod.mk.injEq] at H
    obtain ⟨rfl, rfl, rfl⟩ := H
    obtain ⟨HGz8, hgz8⟩ := HI0.out
    have hcz8_0 := cellS74_0 HGz8
    have hcz8_1 := cellS74_1 HGz8
    have hfz8_0 := bF HGz8 0
    have hfz8_1 := bF HGz8 1
    clear HGz8 hgz8
    go_enter Tryd.func39, Tryd.ntmps39
    go_wp2
    go_ret
    exact ⟨by first | rfl | (simp [errW_none, errW_some] <;> rfl) | (simp [*, errW_none, errW_some] <;> rfl), by repeat (first | (with_reducible first | exact HI0.out | apply IsS74.alloc | apply IsS74.drewN | apply IsS74.drew | apply IsS74.set_0 | apply IsS74.set_1) | exact HI0.out), by repeat (first | (with_reducible first | exact HB.out | apply below_alloc | apply pw_below_drewN | apply below_drew1 | refine below_set ?_ (IsS74.ge HI0.out)) | exact HB.out), by repeat (first | (with_reducible first | exact HK.out | apply KeepBut.set_ | apply keep_drewN | apply keep_drew | apply keep_alloc) | exact HK.out)⟩
   ·rw [if_neg c7] at H
    (try rw [decide_eq_false c7] at H)
    have c7b0 : decide ((s0_0.size : Int) < a1) = false := decide_eq_false c7
    clear c7
    by_cases c9 : 0 ≤ a1
    ·rw [if_pos c9] at H
     (try rw [decide_eq_true c9] at H)
     have c9b0 := eq_true c9
     have c9b1 : decide (0 ≤ a1) = true := decide_eq_true c9
     clear c9
     by_cases c10 : a1 ≤ (s0_0.size : Int)
     ·rw [if_pos c10] at H
      (try rw [decide_eq_true c10] at H)
      have c10b0 := eq_true c10
      have c10b1 : decide (a1 ≤ (s0_0.size : Int)) = true := decide_eq_true c10
      clear c10
      have c11b0 := eq_true (of_decide_eq_true (by first | (with_reducible assumption) | assumption) : 0 ≤ a1)
      have c12b0 := eq_true (of_decide_eq_true (by first | (with_reducible assumption) | assumption) : a1 ≤ (s0_0.size : Int))
      simp only [Option.some.injEq, Prod.mk.injEq] at H
      obtain ⟨rfl, rfl, rfl⟩ := H
      obtain ⟨HGz13, hgz13⟩ := HI0.out
      have hcz13_0 := cellS74_0 HGz13
      have hcz13_1 := cellS74_1 HGz13
      have hfz13_0 := bF HGz13 0
      have hfz13_1 := bF HGz13 1
      clear HGz13 hgz13
      go_enter Tryd.func39, Tryd.ntmps39
      go_wp2
      go_ret
      exact ⟨by first | rfl | (simp [errW_none, errW_some] <;> rfl) | (simp [*, errW_none, errW_some] <;> rfl), by repeat (first | (with_reducible first | exact HI0.out | apply IsS74.alloc | apply IsS74.drewN | apply IsS74.drew | apply IsS74.set_0 | apply IsS74.set_1) | exact HI0.out), by repeat (first | (with_reducible first | exact HB.out | apply below_alloc | apply pw_below_drewN | apply below_drew1 | refine below_set ?_ (IsS74.ge HI0.out)) | exact HB.out), by repeat (first | (with_reducible first | exact HK.out | apply KeepBut.set_ | apply keep_drewN | apply keep_drew | apply keep_alloc) | exact HK.out)⟩
     ·rw [if_neg c10] at H
      (try rw [decide_eq_false c10] at H)
      exact absurd H (by simp)
    ·rw [if_neg c9] at H
     (try rw [decide_eq_false c9] at H)
     exact absurd H (by simp)
def le_Reader_Number.f (s0_0 : ByteArray) (s0_1 : Bool) (a1 : Int) : Option (Int × ByteArray × Bool) := if a1 > 8 then ((le_Reader_Text.f s0_0 s0_1 (-1)).bind fun bt112 => ((le_Get.f bt112.1).bind fun t115 => (some (t115, bt112.2.1, bt112.2.2)))) else ((le_Reader_Text.f s0_0 s0_1 a1).bind fun bt116 => ((le_Get.f bt116.1).bind fun t119 => (some (t119, bt116.2.1, bt116.2.2))))
set_option maxHeartbeats 8000000 in
set_option maxRecDepth 100000 in
theorem le_Reader_Number.calls (g : Nat) (s0_0 : ByteArray) (s0_1 : Bool) (a1 : Int) (r1 : Int) (r2 : ByteArray) (r3 : Bool) (w0 w : World) (hI : IsS74 w0 w g s0_0 s0_1) (hB : Below w0.heap.size w0 w) (h : le_Reader_Number.f s0_0 s0_1 a1 = some (r1, r2, r3)) :
  Calls Tryd.prog 40 #[.pointer (some ⟨g, 0, none⟩), .int .i64 a1] w fun e w' => e = .returned (.int .u64 r1) ∧ IsS74 w0 w' g r2 r3 ∧ Below w0.heap.size w0 w' ∧ KeepBut w w' g none := by
 have HI0 := Ax.mk hI
 have HK := Ax.mk (KeepBut.refl w g none)
 have HL := Ax.mk hB.size
 clear hI
 have HW0 := Ax.mk hB.size
 have HB := Ax.mk hB
 clear hB
 have H : (if a1 > 8 then ((le_Reader_Text.f s0_0 s0_1 (-1)).bind fun bt112 => ((le_Get.f bt112.1).bind fun t115 => (some (t115, bt112.2.1, bt112.2.2)))) else ((le_Reader_Text.f s0_0 s0_1 a1).bind fun bt116 => ((le_Get.f bt116.1).bind fun t119 => (some (t119, bt116.2.1, bt116.2.2))))) = some (r1, r2, r3) := h
 clear h
 by_cases c3 : a1 > 8
 ·rw [if_pos c3] at H
  have c3b0 : decide (8 < a1) = true := decide_eq_true c3
  clear c3
  replace H := Option.bind_eq_some_iff.mp H
  obtain ⟨⟨t112, t113, t114⟩, A40, H⟩ := H
  replace H : ((le_Get.f t112).bind fun t115 => (some (t115, t113, t114))) = some (r1, r2, r3) := H
  have A4 := Ax.mk A40
  clear A40
  replace H := Option.bind_eq_some_iff.mp H
  obtain ⟨t115, A50, H⟩ := H
  replace H : (some (t115, t113, t114)) = some (r1, r2, r3) := H
  have A5 := Ax.mk A50
  clear A50
  simp only [Option.some.injEq, Prod.mk.injEq] at H
  obtain ⟨rfl, rfl, rfl⟩ := H
  go_enter Tryd.func40, Tryd.ntmps40
  go_wp2_with (first | ((with_reducible refine gate_callee (f := 39) rfl ?_); refine goesL_ (some 9) rfl rfl Tryd.func39 (by kernel_rfl) rfl #[.pointer (some ⟨g, 0, none⟩), .int .i64 (-1)] rfl (by (try simp only [List.map_toArray, List.map_cons, List.map_nil]); first | done | rfl | (simp only [List.length_drop, List.length_take]; rfl) | (rw [wrap_sum2 (by assumption)]; rfl)) ?_; (with_reducible refine (le_Reader_Text.calls g s0_0 s0_1 (-1) t112 t113 t114 w0 _ ?side1 ?side2 A4.out).mono ?_); (case side1 => repeat (first | (with_reducible first | exact HI0.out | apply IsS74.alloc | apply IsS74.drewN | apply IsS74.drew | apply IsS74.set_0 | apply IsS74.set_1) | exact HI0.out)); (case side2 => repeat (first | (with_reducible first | exact HB.out | apply below_alloc | apply pw_below_drewN | apply below_drew1 | refine below_set ?_ (IsS74.ge HI0.out)) | exact HB.out)); rintro e w6 ⟨rfl, hi, hb, hk⟩; refine ⟨_, rfl, ?_⟩; have n0_ := Ax.mk (KeepBut.trans (by repeat (first | (with_reducible first | exact HK.out | apply KeepBut.set_ | apply keep_drewN | apply keep_drew | apply keep_alloc) | exact HK.out)) hk (.inl rfl)); have n1_ := Ax.mk (hb); have n2_ := Ax.mk (hi); clear HK; clear HB; clear HI0; have HK := n0_; have HB := n1_; have HI0 := n2_; clear n0_ n1_ n2_; (try clear hb); (try clear hb2); (try clear hk); (try clear hi)) | ((with_reducible refine gate_callee (f := 54) rfl ?_); refine goesL_ (some 10) rfl rfl Tryd.func54 (by kernel_rfl) rfl #[.string t112] rfl (by (try simp only [List.map_toArray, List.map_cons, List.map_nil]); first | done | rfl | (simp only [List.length_drop, List.length_take]; rfl) | (rw [wrap_sum2 (by assumption)]; rfl)) ?_; (with_reducible refine (le_Get.calls t112 t115 _ A5.out).mono ?_); rintro e w7 ⟨rfl, hb⟩; refine ⟨_, rfl, ?_⟩; have n0_ := Ax.mk (IsS74.below (by repeat (first | (with_reducible first | exact HI0.out | apply IsS74.alloc | apply IsS74.drewN | apply IsS74.drew | apply IsS74.set_0 | apply IsS74.set_1) | exact HI0.out)) hb); have n1_ := Ax.mk (KeepBut.trans (by repeat (first | (with_reducible first | exact HK.out | apply KeepBut.set_ | apply keep_drewN | apply keep_drew | apply keep_alloc) | exact HK.out)) (KeepBut.of_below hb g none) (.inl rfl)); have n2_ := Ax.mk (bP (by repeat (first | (with_reducible first | exact HB.out | apply below_alloc | apply pw_below_drewN | apply below_drew1 | refine below_set ?_ (IsS74.ge HI0.out)) | exact HB.out)) hb); clear HI0; clear HK; clear HB; have HI0 := n0_; have HK := n1_; have HB := n2_; clear n0_ n1_ n2_; (try clear hb); (try clear hb2); (try clear hk); (try clear hi)))
  go_ret
  exact ⟨by first | rfl | (simp [errW_none, errW_some] <;> rfl) | (simp [*, errW_none, errW_some] <;> rfl), by repeat (first | (with_reducible first | exact HI0.out | apply IsS74.alloc | apply IsS74.drewN | apply IsS74.drew | apply IsS74.set_0 | apply IsS74.set_1) | exact HI0.out), by repeat (first | (with_reducible first | exact HB.out | apply below_alloc | apply pw_below_drewN | apply below_drew1 | refine below_set ?_ (IsS74.ge HI0.out)) | exact HB.out), by repeat (first | (with_reducible first | exact HK.out | apply KeepBut.set_ | apply keep_drewN | apply keep_drew | apply keep_alloc) | exact HK.out)⟩
 ·rw [if_neg c3] at H
  have c3b0 : decide (8 < a1) = false := decide_eq_false c3
  clear c3
  replace H := Option.bind_eq_some_iff.mp H
  obtain ⟨⟨t116, t117, t118⟩, A80, H⟩ := H
  replace H : ((le_Get.f t116).bind fun t119 => (some (t119, t117, t118))) = some (r1, r2, r3) := H
  have A8 := Ax.mk A80
  clear A80
  replace H := Option.bind_eq_some_iff.mp H
  obtain ⟨t119, A90, H⟩ := H
  replace H : (some (t119, t117, t118)) = some (r1, r2, r3) := H
  have A9 := Ax.mk A90
  clear A90
  simp only [Option.some.injEq, Prod.mk.injEq] at H
  obtain ⟨rfl, rfl, rfl⟩ := H
  go_enter Tryd.func40, Tryd.ntmps40
  go_wp2_with (first | ((with_reducible refine gate_callee (f := 39) rfl ?_); refine goesL_ (some 9) rfl rfl Tryd.func39 (by kernel_rfl) rfl #[.pointer (some ⟨g, 0, none⟩), .int .i64 a1] rfl (by (try simp only [List.map_toArray, List.map_cons, List.map_nil]); first | done | rfl | (simp only [List.length_drop, List.length_take]; rfl) | (rw [wrap_sum2 (by assumption)]; rfl)) ?_; (with_reducible refine (le_Reader_Text.calls g s0_0 s0_1 a1 t116 t117 t118 w0 _ ?side1 ?side2 A8.out).mono ?_); (case side1 => repeat (first | (with_reducible first | exact HI0.out | apply IsS74.alloc | apply IsS74.drewN | apply IsS74.drew | apply IsS74.set_0 | apply IsS74.set_1) | exact HI0.out)); (case side2 => repeat (first | (with_reducible first | exact HB.out | apply below_alloc | apply pw_below_drewN | apply below_drew1 | refine below_set ?_ (IsS74.ge HI0.out)) | exact HB.out)); rintro e w10 ⟨rfl, hi, hb, hk⟩; refine ⟨_, rfl, ?_⟩; have n0_ := Ax.mk (KeepBut.trans (by repeat (first | (with_reducible first | exact HK.out | apply KeepBut.set_ | apply keep_drewN | apply keep_drew | apply keep_alloc) | exact HK.out)) hk (.inl rfl)); have n1_ := Ax.mk (hb); have n2_ := Ax.mk (hi); clear HK; clear HB; clear HI0; have HK := n0_; have HB := n1_; have HI0 := n2_; clear n0_ n1_ n2_; (try clear hb); (try clear hb2); (try clear hk); (try clear hi)) | ((with_reducible refine gate_callee (f := 54) rfl ?_); refine goesL_ (some 10) rfl rfl Tryd.func54 (by kernel_rfl) rfl #[.string t116] rfl (by (try simp only [List.map_toArray, List.map_cons, List.map_nil]); first | done | rfl | (simp only [List.length_drop, List.length_take]; rfl) | (rw [wrap_sum2 (by assumption)]; rfl)) ?_; (with_reducible refine (le_Get.calls t116 t119 _ A9.out).mono ?_); rintro e w11 ⟨rfl, hb⟩; refine ⟨_, rfl, ?_⟩; have n0_ := Ax.mk (IsS74.below (by repeat (first | (with_reducible first | exact HI0.out | apply IsS74.alloc | apply IsS74.drewN | apply IsS74.drew | apply IsS74.set_0 | apply IsS74.set_1) | exact HI0.out)) hb); have n1_ := Ax.mk (KeepBut.trans (by repeat (first | (with_reducible first | exact HK.out | apply KeepBut.set_ | apply keep_drewN | apply keep_drew | apply keep_alloc) | exact HK.out)) (KeepBut.of_below hb g none) (.inl rfl)); have n2_ := Ax.mk (bP (by repeat (first | (with_reducible first | exact HB.out | apply below_alloc | apply pw_below_drewN | apply below_drew1 | refine below_set ?_ (IsS74.ge HI0.out)) | exact HB.out)) hb); clear HI0; clear HK; clear HB; have HI0 := n0_; have HK := n1_; have HB := n2_; clear n0_ n1_ n2_; (try clear hb); (try clear hb2); (try clear hk); (try clear hi)))
  go_ret
  exact ⟨by first | rfl | (simp [errW_none, errW_some] <;> rfl) | (simp [*, errW_none, errW_some] <;> rfl), by repeat (first | (with_reducible first | exact HI0.out | apply IsS74.alloc | apply IsS74.drewN | apply IsS74.drew | apply IsS74.set_0 | apply IsS74.set_1) | exact HI0.out), by repeat (first | (with_reducible first | exact HB.out | apply below_alloc | apply pw_below_drewN | apply below_drew1 | refine below_set ?_ (IsS74.ge HI0.out)) | exact HB.out), by repeat (first | (with_reducible first | exact HK.out | apply KeepBut.set_ | apply keep_drewN | apply keep_drew | apply keep_alloc) | exact HK.out)⟩
def r2_Get.l0 : Nat → ByteArray → Int → Int → Option (Int)
 | 0, _, _, _ => none
 | k + 1, x0, x3, x4 => if x4 ≥ 0 then (if 0 ≤ x4 then (if x4 < (x0.size : Int) then (r2_Get.l0 k x0 (IntKind.u64.wrap ((IntKind.u64.wrap (x3 * 256)) + (IntKind.u64.wrap (bt x0 x4)))) (wrap64 (x4 - 1))) else (none)) else (none)) else (some x3)
def r2_Get.f (k : Nat) (a0 : ByteArray) : Option (Int) := r2_Get.l0 k a0 0 ((mn (a0.size : Int) 8) - 1)
theorem r2_Get.mono_l : ∀ k, (∀ y0 y1 y2, LeO (r2_Get.l0 k y0 y1 y2) (r2_Get.l0 (k + 1) y0 y1 y2))
 | 0 => fun _ _ _ r h => by simp [r2_Get.l0] at h
 | k + 1 => by
  have ih0 := r2_Get.mono_l k
  ·intro y0 y1 y2
   unfold r2_Get.l0
   repeat' first
   | (with_reducible exact ih0 _ _ _)
   | (with_reducible exact LeO.refl _)
   | (with_reducible exact LeO.none _)
   | (with_reducible refine LeO.ite ?_ ?_)
   | (with_reducible refine LeO.bind ?_ (fun _ => ?_))
   | exact ih0 _ _ _
   | exact LeO.none _
   | refine LeO.ite ?_ ?_
   | refine LeO.bind ?_ (fun _ => ?_)
theorem r2_Get.mono : ∀ a0 k, LeO (r2_Get.f k a0) (r2_Get.f (k + 1) a0) := by
 intro a0 k
 have ih0 := r2_Get.mono_l k
 unfold r2_Get.f
 repeat' first
   | (with_reducible exact ih0 _ _ _)
   | (with_reducible exact LeO.refl _)
   | (with_reducible exact LeO.none _)
   | (with_reducible refine LeO.ite ?_ ?_)
   | (with_reducible refine LeO.bind ?_ (fun _ => ?_))
   | exact ih0 _ _ _
   | exact LeO.none _
   | refine LeO.ite ?_ ?_
   | refine LeO.bind ?_ (fun _ => ?_)
set_option maxHeartbeats 8000000 in
set_option maxRecDepth 100000 in
theorem r2_Get.calls (k : Nat) (a0 : ByteArray) (r : Int) (w : World) (h : r2_Get.f k a0 = some r) :
  Calls Tryd.prog 43 #[.string a0] w fun e w' => e = .returned (.int .u64 r) ∧ Below w.heap.size w w' := by
 have HB := Ax.mk (Below.refl w.heap.size w)
 have H : (r2_Get.l0 k a0 0 ((mn (a0.size : Int) 8) - 1)) = some r := h
 clear h
 obtain ⟨ji2, hji2⟩ : ∃ j_ : Int, (mn (a0.size : Int) 8) = j_ := ⟨_, rfl⟩
 replace H : (r2_Get.l0 k a0 0 ((ji2) - 1)) = some r := by first | (rw [hji2] at H; exact H) | (simp only [hji2] at H ⊢; exact H)
 (try (have hji2h : ji2 ≤ 8 := by (rw [← hji2]; unfold mn; (repeat' split) <;> omega)))
 (try (have hji2g : ji2 ≤ 64 := by omega))
 (try (have hji2l : 0 ≤ ji2 := by (rw [← hji2]; unfold mn; (repeat' split) <;> omega)))
 (try (have hji2m : 0 ≤ ji2 := by omega))
 have hji2_ : (if 8 < (a0.size : Int) then 8 else (a0.size : Int)) = ji2 := hji2
 have H' := Ax.mk H
 clear H
 go_enter Tryd.func43, Tryd.ntmps43
 go_wp2
 go_loopg [3, 4] k (fun kq v3 v4 w' => ∃ (x3_1 : Int) (x4_1 : Int), v3 = .int .u64 x3_1 ∧ v4 = .int .i64 x4_1 ∧ Ax (r2_Get.l0 kq a0 x3_1 x4_1 = some r) ∧ Ax (kq ≤ k) ∧ Ax (Below w.heap.size w w'))
 case atStart => exact ⟨(0), ((ji2) - 1), (by first | rfl | (simp; done) | (simp [*]; done)), (by first | rfl | (simp; done) | (simp only [← hji2] <;> (first | rfl | simp)) | (simp [*]; done)), H', ⟨Nat.le_refl _⟩, ⟨bA⟩⟩
 case round =>
  clear H'
  try clear p2
  obtain ⟨x3_1, x4_1, rfl, rfl, HA, HK1, HB⟩ := hrel
  cases gk with
  | zero => exact absurd HA.out (by simp [r2_Get.l0])
  | succ k1 =>
   have H := HA.out
   clear HA
   simp only [r2_Get.l0] at H
   by_cases c3 : x4_1 ≥ 0
   ·rw [if_pos c3] at H
    have c3b0 : decide (0 ≤ x4_1) = true := decide_eq_true c3
    clear c3
    by_cases c4 : 0 ≤ x4_1
    ·rw [if_pos c4] at H
     have c4b0 : decide (0 ≤ x4_1) = true := decide_eq_true c4
     clear c4
     by_cases c5 : x4_1 < (a0.size : Int)
     ·rw [if_pos c5] at H
      have c5b0 : decide (x4_1 < (a0.size : Int)) = true := decide_eq_true c5
      clear c5
      have H' := Ax.mk H
      clear H
      have p6 : 0 ≤ (x4_1 : Int) := of_decide_eq_true (by first | (with_reducible assumption) | assumption)
      have q6 : x4_1 < (a0.size : Int) := of_decide_eq_true (by first | (with_reducible assumption) | assumption)
      have hx6 := bt_at a0 x4_1
      replace p6 := eq_true p6
      replace q6 := eq_true q6
      go_wp2
      go_roundg k1
      case measure => have := HK1.out; omega
      case rel => exact ⟨(IntKind.u64.wrap ((IntKind.u64.wrap (x3_1 * 256)) + (IntKind.u64.wrap (bt a0 x4_1)))), (wrap64 (x4_1 - 1)), (by first | rfl | (simp; done) | (simp [*]; done)), (by first | rfl | (simp; done) | (simp [*]; done)), H', ⟨by have := HK1.out; omega⟩, ⟨bA⟩⟩
     ·rw [if_neg c5] at H
      exact absurd H (by simp)
    ·rw [if_neg c4] at H
     exact absurd H (by simp)
   ·rw [if_neg c3] at H
    have c3b0 : decide (0 ≤ x4_1) = false := decide_eq_false c3
    clear c3
    obtain rfl := Option.some.inj H
    go_wp2
    go_ret
    exact ⟨by first | rfl | (simp [errW_none, errW_some] <;> rfl) | (simp only [← hji2]; first | rfl | (simp [errW_none, errW_some] <;> rfl)) | (simp [*, errW_none, errW_some] <;> rfl), bA⟩
def r3_Take.f (k : Nat) (a0 : ByteArray) : Option (ByteArray × Int) := if (a0.size : Int) < 4 then (some ((⟨#[]⟩ : ByteArray), 10)) else (if 0 ≤ (wrap64 ((a0.size : Int) - 4)) then (if (wrap64 ((a0.size : Int) - 4)) ≤ (a0.size : Int) then ((r3_Put.f k (a0.extract 0 ((wrap64 ((a0.size : Int) - 4)) : Int).toNat)).bind fun t222 => (if t222.toList = a0.toList then (some (a0.extract 0 ((wrap64 ((a0.size : Int) - 4)) : Int).toNat, 0)) else (some ((⟨#[]⟩ : ByteArray), 9)))) else (none)) else (none))
theorem r3_Take.mono : ∀ a0 k, LeO (r3_Take.f k a0) (r3_Take.f (k + 1) a0) := by
 intro a0 k
 unfold r3_Take.f
 repeat' first
   | (with_reducible exact r3_Put.mono _ _)
   | (with_reducible exact LeO.refl _)
   | (with_reducible exact LeO.none _)
   | (with_reducible refine LeO.ite ?_ ?_)
   | (with_reducible refine LeO.bind ?_ (fun _ => ?_))
   | exact r3_Put.mono _ _
   | exact LeO.none _
   | refine LeO.ite ?_ ?_
   | refine LeO.bind ?_ (fun _ => ?_)
set_option maxHeartbeats 8000000 in
set_option maxRecDepth 100000 in
theorem r3_Take.calls (k : Nat) (a0 : ByteArray) (r1 : ByteArray) (r2 : Int) (w : World) (h : r3_Take.f k a0 = some (r1, r2)) :
  Calls Tryd.prog 42 #[.string a0] w fun e w' => e = .returned (.tuple #[.string r1, .int .i64 r2]) ∧ Below w.heap.size w w' := by
 have HB := Ax.mk (Below.refl w.heap.size w)
 have H : (if (a0.size : Int) < 4 then (some ((⟨#[]⟩ : ByteArray), 10)) else (if 0 ≤ (wrap64 ((a0.size : Int) - 4)) then (if (wrap64 ((a0.size : Int) - 4)) ≤ (a0.size : Int) then ((r3_Put.f k (a0.extract 0 ((wrap64 ((a0.size : Int) - 4)) : Int).toNat)).bind fun t222 => (if t222.toList = a0.toList then (some (a0.extract 0 ((wrap64 ((a0.size : Int) - 4)) : Int).toNat, 0)) else (some ((⟨#[]⟩ : ByteArray), 9)))) else (none)) else (none))) = some (r1, r2) := h
 clear h
 by_cases c2 : (a0.size : Int) < 4
 ·rw [if_pos c2] at H
  have c2b0 : decide ((a0.size : Int) < 4) = true := decide_eq_true c2
  have c2b1 : decide (a0.size < 4) = true := decide_eq_true (by omega)
  clear c2
  simp only [Option.some.injEq, Prod.mk.injEq] at H
  obtain ⟨rfl, rfl⟩ := H
  go_enter Tryd.func42, Tryd.ntmps42
  go_wp2
  go_ret2
  exact ⟨by first | rfl | (simp [errW_none, errW_some] <;> rfl) | (simp [*, errW_none, errW_some] <;> rfl), bA⟩
 ·rw [if_neg c2] at H
  have c2b0 : decide ((a0.size : Int) < 4) = false := decide_eq_false c2
  have c2b1 : decide (a0.size < 4) = false := decide_eq_false (by omega)
  clear c2
  obtain ⟨ji3, hji3⟩ : ∃ j_ : Int, (wrap64 ((a0.size : Int) - 4)) = j_ := ⟨_, rfl⟩
  replace H : (if 0 ≤ (ji3) then (if (ji3) ≤ (a0.size : Int) then ((r3_Put.f k (a0.extract 0 ((ji3) : Int).toNat)).bind fun t222 => (if t222.toList = a0.toList then (some (a0.extract 0 ((ji3) : Int).toNat, 0)) else (some ((⟨#[]⟩ : ByteArray), 9)))) else (none)) else (none)) = some (r1, r2) := by first | (rw [hji3] at H; exact H) | (simp only [hji3] at H ⊢; exact H)
  have hji3w : (IntKind.i64.wrap ((a0.size : Int) - 4)) = ji3 := (i64_w _).trans hji3
  by_cases c4 : 0 ≤ (ji3)
  ·rw [if_pos c4] at H
   have c4b0 := eq_true c4
   have c4b1 : decide (0 ≤ (ji3)) = true := decide_eq_true c4
   clear c4
   by_cases c5 : (ji3) ≤ (a0.size : Int)
   ·rw [if_pos c5] at H
    have c5b0 := eq_true c5
    have c5b1 : decide ((ji3) ≤ (a0.size : Int)) = true := decide_eq_true c5
    clear c5
    replace H := Option.bind_eq_some_iff.mp H
    obtain ⟨t222, A60, H⟩ := H
    replace H : (if t222.toList = a0.toList then (some (a0.extract 0 ((ji3) : Int).toNat, 0)) else (some ((⟨#[]⟩ : ByteArray), 9))) = some (r1, r2) := H
    have A6 := Ax.mk A60
    clear A60
    by_cases c7 : t222.toList = a0.toList
    ·rw [if_pos c7] at H
     have c7b0 : (t222.toList == a0.toList) = true := beq_iff_eq.mpr c7
     have c7b1 : (t222.toList != a0.toList) = false := bne_eq_false_iff_eq.mpr c7
     clear c7
     simp only [Option.some.injEq, Prod.mk.injEq] at H
     obtain ⟨rfl, rfl⟩ := H
     go_enter Tryd.func42, Tryd.ntmps42
     go_wp2_with (first | ((with_reducible refine gate_callee (f := 15) rfl ?_); refine goesL_ (some 14) rfl rfl Tryd.func15 (by kernel_rfl) rfl #[.string (a0.extract 0 ((ji3) : Int).toNat)] rfl (by (try simp only [List.map_toArray, List.map_cons, List.map_nil]); first | done | (simp only [hji3]; rfl) | rfl | (simp only [List.length_drop, List.length_take]; rfl) | (rw [wrap_sum2 (by assumption)]; rfl)) ?_; (with_reducible refine (r3_Put.calls k (a0.extract 0 ((ji3) : Int).toNat) t222 _ A6.out).mono ?_); rintro e w8 ⟨rfl, hb⟩; refine ⟨_, rfl, ?_⟩; have n0_ := Ax.mk (bP bA hb); clear HB; have HB := n0_; clear n0_; (try clear hb); (try clear hb2); (try clear hk); (try clear hi)))
     go_ret2
     exact ⟨by first | rfl | (simp [errW_none, errW_some] <;> rfl) | (simp only [← hji3]; first | rfl | (simp [errW_none, errW_some] <;> rfl)) | (simp [*, errW_none, errW_some] <;> rfl), bA⟩
    ·rw [if_neg c7] at H
     have c7b0 : (t222.toList == a0.toList) = false := beq_eq_false_iff_ne.mpr c7
     have c7b1 : (t222.toList != a0.toList) = true := bne_iff_ne.mpr c7
     simp only [Option.some.injEq, Prod.mk.injEq] at H
     obtain ⟨rfl, rfl⟩ := H
     go_enter Tryd.func42, Tryd.ntmps42
     go_wp2_with (first | ((with_reducible refine gate_callee (f := 15) rfl ?_); refine goesL_ (some 14) rfl rfl Tryd.func15 (by kernel_rfl) rfl #[.string (a0.extract 0 ((ji3) : Int).toNat)] rfl (by (try simp only [List.map_toArray, List.map_cons, List.map_nil]); first | done | (simp only [hji3]; rfl) | rfl | (simp only [List.length_drop, List.length_take]; rfl) | (rw [wrap_sum2 (by assumption)]; rfl)) ?_; (with_reducible refine (r3_Put.calls k (a0.extract 0 ((ji3) : Int).toNat) t222 _ A6.out).mono ?_); rintro e w9 ⟨rfl, hb⟩; refine ⟨_, rfl, ?_⟩; have n0_ := Ax.mk (bP bA hb); clear HB; have HB := n0_; clear n0_; (try clear hb); (try clear hb2); (try clear hk); (try clear hi)))
     go_ret2
     exact ⟨by first | rfl | (simp [errW_none, errW_some] <;> rfl) | (simp only [← hji3]; first | rfl | (simp [errW_none, errW_some] <;> rfl)) | (simp [*, errW_none, errW_some] <;> rfl), bA⟩
   ·rw [if_neg c5] at H
    exact absurd H (by simp)
  ·rw [if_neg c4] at H
   exact absurd H (by simp)
end Go.Proofs.YtcgejogmiglalaaDoor.Fn
end
section
namespace Go.Proofs.YtcgejogmiglalaaDoor.Fn
open Go.RowKit Go.Proofs.YtcgejogmiglalaaDoorW.PrintWords Go.Proofs.YtcgejogmiglalaaDoorW.PrintLast Go.Proofs.YtcgejogmiglalaaDoorW.PrintMore Go.Proofs.YtcgejogmiglalaaDoor.Lf
open List (setIfInBounds_toArray set_cons_zero set_cons_succ)
attribute [local go_sem] max2_int min2_int max_two min_two max_three min_three max_four min_four   -- for this text's walks alone
set_option linter.unusedVariables false
set_option linter.unusedSimpArgs false
def head_Take.l : Nat → ByteArray → Bool → List S53 → Option (List S53 × ByteArray × Bool)
 | 0, left, bad, acc => some (acc, left, bad)
 | n + 1, left, bad, acc => (le_Reader_Number.f left bad 2).bind fun a => (le_Reader_Number.f a.2.1 a.2.2 2).bind fun b => head_Take.l n b.2.1 b.2.2 (acc ++ [⟨wrap64 a.1, wrap64 b.1⟩])
def head_Take.m (k : Nat) (nm : ByteArray) (g sc sz : Int) (l : List S53) (left : ByteArray) (bad : Bool) : Option (Int × Int × Int × List S53 × Int) :=
 if bad = true then some (0, 0, 0, [], 2) else if nm.toList = [114, 116, 99, 108] then (if (Lib.trimB left.data.toList 0) = [] then (head_Right.f k g sc sz l).bind fun ok => if ok = true then some (g, sc, sz, l, 0) else some (0, 0, 0, [], 2) else some (0, 0, 0, [], 2)) else some (0, 0, 0, [], 2)
def head_Take.f (k : Nat) (s : ByteArray) : Option (Int × Int × Int × List S53 × Int) :=
 if s.size = 64 then (seal_Take.f s).bind fun t => if t.2 = 0 then
  (le_Reader_Text.f t.1 false 4).bind fun nm => (le_Reader_Number.f nm.2.1 nm.2.2 8).bind fun g => (le_Reader_Number.f g.2.1 g.2.2 2).bind fun sc => (le_Reader_Number.f sc.2.1 sc.2.2 4).bind fun sz => (le_Reader_Number.f sz.2.1 sz.2.2 1).bind fun mn =>
   if 0 ≤ mn.1 ∧ mn.1 < 256 ∧ mn.2.1.size ≤ 1000 then (head_Take.l mn.1.toNat mn.2.1 mn.2.2 []).bind fun lp => if lp.2.1.size ≤ 1000 then head_Take.m k nm.1 g.1 (wrap64 sc.1) (wrap64 sz.1) lp.1 lp.2.1 lp.2.2 else none else none
  else some (0, 0, 0, [], t.2) else some (0, 0, 0, [], 1)
theorem head_Take.mono : ∀ a0 k, LeO (head_Take.f k a0) (head_Take.f (k + 1) a0) := by
 intro a0 k
 have hm : ∀ nm g sc sz l left bad, LeO (head_Take.m k nm g sc sz l left bad) (head_Take.m (k + 1) nm g sc sz l left bad) := fun nm g sc sz l left bad => by
  unfold head_Take.m
  exact LeO.ite (LeO.refl _) (LeO.ite (LeO.ite (LeO.bind (head_Right.mono _ _ _ _ k) (fun _ => LeO.refl _)) (LeO.refl _)) (LeO.refl _))
 unfold head_Take.f
 refine LeO.ite (LeO.bind (LeO.refl _) (fun _ => LeO.ite (LeO.bind (LeO.refl _) (fun _ => LeO.bind (LeO.refl _) (fun _ => LeO.bind (LeO.refl _) (fun _ => LeO.bind (LeO.refl _) (fun _ => LeO.bind (LeO.refl _) (fun _ => LeO.ite (LeO.bind (LeO.refl _) (fun _ => LeO.ite (hm _ _ _ _ _ _ _) (LeO.refl _))) (LeO.refl _))))))) (LeO.refl _))) (LeO.refl _)
theorem ht_keep {w w1 : World} {g k : Nat} {o : Obj} (hk : KeepBut w w1 g none) (h : w.heap[k]? = some o) (hne : k ≠ g) : w1.heap[k]? = some o := by
 have hlt : k < w.heap.size := (Array.getElem?_eq_some_iff.1 h).1
 rw [hk.2 k hlt hne (by simp)]; exact h
def HtH (w : World) (g sc sz : Int) (v : Value) (er : Int) (W : World) : Prop :=
 W.heap[w.heap.size]? = some (.cells #[.int .u64 g, .int .i64 sc, .int .i64 sz, v] 25 (0, 0)) ∧ W.heap[w.heap.size + 1]? = some (.cells #[.int .i64 er] 27 (0, 0))
def HtR (w : World) (r1 r2 r3 : Int) (r4 : List S53) (r5 : Int) : Ending → World → Prop := fun e w' => ∃ v1_ : Value, e = .returned (.tuple #[.agg #[.int .u64 r1, .int .i64 r2, .int .i64 r3, v1_], .int .i64 r5]) ∧ Kd.R k53 53 w' w.heap.size (fun _ => True) v1_ r4 ∧ Below w.heap.size w w'
theorem ht_results {w W : World} {tmps : Array Value} {g sc sz er : Int} {v : Value} (h2 : tmps.getD 2 undef = .pointer (some ⟨w.heap.size, 0, none⟩)) (h3 : tmps.getD 3 undef = .pointer (some ⟨w.heap.size + 1, 0, none⟩)) (hH : HtH w g sc sz v er W) :
  (results Tryd.f16 tmps).run Tryd.prog W = .ok (.tuple #[.agg #[.int .u64 g, .int .i64 sc, .int .i64 sz, v], .int .i64 er]) W := by
 have h2' : tmps[2]?.getD undef = .pointer (some ⟨w.heap.size, 0, none⟩) := by simpa using h2
 have h3' : tmps[3]?.getD undef = .pointer (some ⟨w.heap.size + 1, 0, none⟩) := by simpa using h3
 have c0 : W.cell? ⟨w.heap.size, 0, none⟩ = some (.int .u64 g) := (bC hH.1 0).trans rfl
 have c1 : W.cell? ⟨w.heap.size, 1, none⟩ = some (.int .i64 sc) := (bC hH.1 1).trans rfl
 have c2 : W.cell? ⟨w.heap.size, 2, none⟩ = some (.int .i64 sz) := (bC hH.1 2).trans rfl
 have c3 : W.cell? ⟨w.heap.size, 3, none⟩ = some v := (bC hH.1 3).trans rfl
 have hc : W.cell? ⟨w.heap.size + 1, 0, none⟩ = some (.int .i64 er) := (bC hH.2 0).trans rfl
 simp [results, Tryd.results16, h2', h3', asAddr, c0, c1, c2, c3, hc, go_sem]
theorem ht_facts {w W : World} {g sc sz er : Int} {v : Value} (hH : HtH w g sc sz v er W) : (W.cell? ⟨w.heap.size, 0, none⟩ = some (.int .u64 g) ∧ W.cell? ⟨w.heap.size, 1, none⟩ = some (.int .i64 sc) ∧ W.cell? ⟨w.heap.size, 2, none⟩ = some (.int .i64 sz) ∧ W.cell? ⟨w.heap.size, 3, none⟩ = some v ∧ W.cell? ⟨w.heap.size + 1, 0, none⟩ = some (.int .i64 er)) ∧
  (W.frozen? ⟨w.heap.size, 0, none⟩ = false ∧ W.frozen? ⟨w.heap.size, 1, none⟩ = false ∧ W.frozen? ⟨w.heap.size, 2, none⟩ = false ∧ W.frozen? ⟨w.heap.size, 3, none⟩ = false ∧ W.frozen? ⟨w.heap.size + 1, 0, none⟩ = false) :=
 ⟨⟨(bC hH.1 0).trans rfl, (bC hH.1 1).trans rfl, (bC hH.1 2).trans rfl, (bC hH.1 3).trans rfl, (bC hH.2 0).trans rfl⟩, ⟨bF hH.1 0, bF hH.1 1, bF hH.1 2, bF hH.1 3, bF hH.2 0⟩⟩
theorem ht_below {w W W' : World} {g sc sz er : Int} {v : Value} (hH : HtH w g sc sz v er W) (hb : Below W.heap.size W W') : HtH w g sc sz v er W' := ⟨bB hH.1 hb, bB hH.2 hb⟩
theorem ht_start (w : World) : HtH w 0 0 0 (.slice none 0 0) 0 ((w.alloc (.cells #[.int .u64 0, .int .i64 0, .int .i64 0, .slice none 0 0] 25)).alloc (.cells #[.int .i64 0] 27)) :=
 ⟨blk_alloc (heap_alloc_new w _) _, by have h := heap_alloc_new (w.alloc (.cells #[.int .u64 0, .int .i64 0, .int .i64 0, .slice none 0 0] 25)) (.cells #[.int .i64 0] 27); rwa [World.size_alloc] at h⟩
theorem ht_drew {w W : World} {g sc sz er : Int} {v : Value} (hH : HtH w g sc sz v er W) : HtH w g sc sz v er W.drew := ⟨hH.1, hH.2⟩
theorem ht_err {w W : World} {g sc sz er : Int} {v : Value} (hH : HtH w g sc sz v er W) (er' : Int) : HtH w g sc sz v er' (W.setCell ⟨w.heap.size + 1, 0, none⟩ (.int .i64 er')) :=
 ⟨bR (p := ⟨w.heap.size + 1, 0, none⟩) hH.1 (show w.heap.size ≠ w.heap.size + 1 by omega) _, bU (cs := #[.int .i64 er]) hH.2 0 _ rfl⟩
theorem ht_head {w W : World} {g sc sz er : Int} {v : Value} (hH : HtH w g sc sz v er W) (g' sc' sz' : Int) (v' : Value) :
  HtH w g' sc' sz' v' er ((((W.setCell ⟨w.heap.size, 0, none⟩ (.int .u64 g')).setCell ⟨w.heap.size, 1, none⟩ (.int .i64 sc')).setCell ⟨w.heap.size, 2, none⟩ (.int .i64 sz')).setCell ⟨w.heap.size, 3, none⟩ v') := by
 refine ⟨?_, ?_⟩
 ·exact bU (cs := #[.int .u64 g', .int .i64 sc', .int .i64 sz', v]) (bU (cs := #[.int .u64 g', .int .i64 sc', .int .i64 sz, v]) (bU (cs := #[.int .u64 g', .int .i64 sc, .int .i64 sz, v]) (bU (cs := #[.int .u64 g, .int .i64 sc, .int .i64 sz, v]) hH.1 0 _ rfl) 1 _ rfl) 2 _ rfl) 3 _ rfl
 ·have hne : w.heap.size + 1 ≠ w.heap.size := by omega
  exact bR (p := ⟨w.heap.size, 3, none⟩) (bR (p := ⟨w.heap.size, 2, none⟩) (bR (p := ⟨w.heap.size, 1, none⟩) (bR (p := ⟨w.heap.size, 0, none⟩) hH.2 hne _) hne _) hne _) hne _
theorem ht_headB {w W : World} {g sc sz : Int} {v : Value} (hB : Below w.heap.size w W) : Below w.heap.size w ((((W.setCell ⟨w.heap.size, 0, none⟩ (.int .u64 g)).setCell ⟨w.heap.size, 1, none⟩ (.int .i64 sc)).setCell ⟨w.heap.size, 2, none⟩ (.int .i64 sz)).setCell ⟨w.heap.size, 3, none⟩ v) :=
 below_set (below_set (below_set (below_set hB (Nat.le_refl _)) (Nat.le_refl _)) (Nat.le_refl _)) (Nat.le_refl _)
set_option maxHeartbeats 8000000 in
set_option maxRecDepth 100000 in
theorem head_Take.size (s : ByteArray) (w : World) (h : s.size ≠ 64) : Calls Tryd.prog 16 #[.string s] w (HtR w 0 0 0 [] 1) := by
 have c1 : ((s.size : Int) == 64) = false := beq_eq_false_iff_ne.mpr (by omega)
 have c2 : ((s.size : Int) != 64) = true := bne_iff_ne.mpr (by omega)
 clear h
 go_enter_defers Tryd.func16, Tryd.ntmps16
 go_wp2
 have hH : HtH w 0 0 0 (.slice none 0 0) 1 ((w.alloc (.cells #[.int .u64 0, .int .i64 0, .int .i64 0, .slice none 0 0] 25)).alloc (.cells #[.int .i64 1] 27)) :=
  ⟨blk_alloc (heap_alloc_new w _) _, by have h := heap_alloc_new (w.alloc (.cells #[.int .u64 0, .int .i64 0, .int .i64 0, .slice none 0 0] 25)) (.cells #[.int .i64 1] 27); rwa [World.size_alloc] at h⟩
 exact ⟨_, ht_results rfl rfl hH, _, rfl, Kd.R_nil _ _ _ _ _, below_alloc (below_alloc (Below.refl _ _) _) _⟩
set_option maxHeartbeats 8000000 in
set_option maxRecDepth 100000 in
theorem head_Take.seal (s t : ByteArray) (er : Int) (w : World) (h : s.size = 64) (ht : seal_Take.f s = some (t, er)) (he : er ≠ 0) : Calls Tryd.prog 16 #[.string s] w (HtR w 0 0 0 [] er) := by
 have c1 : ((s.size : Int) == 64) = true := beq_iff_eq.mpr (by omega)
 have c2 : ((s.size : Int) != 64) = false := bne_eq_false_iff_eq.mpr (by omega)
 have c3 : (er == 0) = false := beq_eq_false_iff_ne.mpr he
 have c4 : (er != 0) = true := bne_iff_ne.mpr he
 have HT := Ax.mk ht
 have hH0 := ht_start w
 have hB0 := below_alloc (below_alloc (Below.refl w.heap.size w) (.cells #[.int .u64 0, .int .i64 0, .int .i64 0, .slice none 0 0] 25)) (.cells #[.int .i64 0] 27)
 have HH0 := Ax.mk hH0
 have HB0 := Ax.mk hB0
 clear h ht he hH0 hB0
 go_enter_defers Tryd.func16, Tryd.ntmps16
 go_wp2_with (first | (go_at_call 37; fail))
 refine (seal_Take.calls s t er _ HT.out).mono ?_
 rintro e W1 ⟨rfl, hb1⟩
 have hH1 := ht_below HH0.out hb1
 have HH1 := Ax.mk hH1
 have HB1 := Ax.mk (bP HB0.out hb1)
 obtain ⟨⟨h0, h1, h2, h3, h4⟩, f0, f1, f2, f3, f4⟩ := ht_facts hH1
 clear hH1 hb1
 go_wp2
 go_region
 all_goals go_wp2
 all_goals exact ⟨_, ht_results rfl rfl (ht_drew (ht_err (ht_head (ht_err HH1.out er) 0 0 0 (.slice none 0 0)) er)), _, rfl, Kd.R_nil _ _ _ _ _, below_drew1 (below_set (ht_headB (below_set HB1.out (Nat.le_succ _))) (Nat.le_succ _))⟩
set_option maxHeartbeats 4000000 in
set_option maxRecDepth 100000 in
theorem head_Take.doorOk (w W : World) (g sc sz : Int) (v : Value) (hH : HtH w g sc sz v 0 W) : CallsD Tryd.prog 38 #[.pointer (some ⟨w.heap.size + 1, 0, none⟩), .pointer (some ⟨w.heap.size, 0, none⟩)] .returning W fun e u' w' => u' = .returning ∧ e = .returned (.tuple #[]) ∧ W = w' := by
 obtain ⟨⟨h0, h1, h2, h3, h4⟩, f0, f1, f2, f3, f4⟩ := ht_facts hH
 clear hH h0 h1 h2 h3 f0 f1 f2 f3 f4
 go_enter_d Tryd.func38, Tryd.ntmps38
 go_wp2
 go_end0
 exact ⟨rfl, rfl⟩
set_option maxHeartbeats 4000000 in
set_option maxRecDepth 100000 in
theorem head_Take.doorNo (w W : World) (g sc sz er : Int) (v : Value) (he : er ≠ 0) (hH : HtH w g sc sz v er W) : CallsD Tryd.prog 38 #[.pointer (some ⟨w.heap.size + 1, 0, none⟩), .pointer (some ⟨w.heap.size, 0, none⟩)] .returning W fun e u' w' => u' = .returning ∧ e = .returned (.tuple #[]) ∧
  w' = (((W.setCell ⟨w.heap.size, 0, none⟩ (.int .u64 0)).setCell ⟨w.heap.size, 1, none⟩ (.int .i64 0)).setCell ⟨w.heap.size, 2, none⟩ (.int .i64 0)).setCell ⟨w.heap.size, 3, none⟩ (.slice none 0 0) := by
 obtain ⟨⟨h0, h1, h2, h3, h4⟩, f0, f1, f2, f3, f4⟩ := ht_facts hH
 have c3 : (er == 0) = false := beq_eq_false_iff_ne.mpr he
 have c4 : (er != 0) = true := bne_iff_ne.mpr he
 clear hH he
 go_enter_d Tryd.func38, Tryd.ntmps38
 go_wp2
 go_end0
 exact ⟨rfl, rfl⟩
theorem ht_doorOk {w W : World} {tmps : Array Value} {g sc sz : Int} {v : Value} {l : List S53} {ok : Nat → Prop} (h2 : tmps.getD 2 undef = .pointer (some ⟨w.heap.size, 0, none⟩)) (h3 : tmps.getD 3 undef = .pointer (some ⟨w.heap.size + 1, 0, none⟩)) (hH : HtH w g sc sz v 0 W)
  (hR : Kd.R k53 53 W w.heap.size ok v l) (hB : Below w.heap.size w W) :
  Leaves Tryd.prog Tryd.f16 tmps (HtR w g sc sz l 0) [{ target := .fn (.func 38) #[.pointer (some ⟨w.heap.size + 1, 0, none⟩), .pointer (some ⟨w.heap.size, 0, none⟩)], args := #[] }] .returning W := by
 refine leaves_cons (f := 38) (args := #[.pointer (some ⟨w.heap.size + 1, 0, none⟩), .pointer (some ⟨w.heap.size, 0, none⟩)]) (by simp) (by simp [go_sem]) ?_
 refine (head_Take.doorOk w W g sc sz v hH).mono ?_
 rintro e u' w' ⟨rfl, rfl, rfl⟩
 exact ⟨_, ht_results h2 h3 hH, _, rfl, Kd.R_mono hR (fun _ _ => trivial), hB⟩
theorem ht_doorNo {w W : World} {tmps : Array Value} {g sc sz er : Int} {v : Value} (he : er ≠ 0) (h2 : tmps.getD 2 undef = .pointer (some ⟨w.heap.size, 0, none⟩)) (h3 : tmps.getD 3 undef = .pointer (some ⟨w.heap.size + 1, 0, none⟩)) (hH : HtH w g sc sz v er W)
  (hB : Below w.heap.size w W) :
  Leaves Tryd.prog Tryd.f16 tmps (HtR w 0 0 0 [] er) [{ target := .fn (.func 38) #[.pointer (some ⟨w.heap.size + 1, 0, none⟩), .pointer (some ⟨w.heap.size, 0, none⟩)], args := #[] }] .returning W := by
 refine leaves_cons (f := 38) (args := #[.pointer (some ⟨w.heap.size + 1, 0, none⟩), .pointer (some ⟨w.heap.size, 0, none⟩)]) (by simp) (by simp [go_sem]) ?_
 refine (head_Take.doorNo w W g sc sz er v he hH).mono ?_
 rintro e u' w' ⟨rfl, rfl, rfl⟩
 exact ⟨_, ht_results h2 h3 (ht_head hH 0 0 0 (.slice none 0 0)), _, rfl, Kd.R_nil _ _ _ _ _, ht_headB hB⟩
theorem ht_keepH {w W W' : World} {g sc sz er : Int} {v : Value} {G : Nat} (hH : HtH w g sc sz v er W) (hk : KeepBut W W' G none) (hG : w.heap.size + 1 < G) : HtH w g sc sz v er W' := ⟨ht_keep hk hH.1 (by omega), ht_keep hk hH.2 (by omega)⟩
theorem ht_span {w W : World} {g sc sz er : Int} {v : Value} (hH : HtH w g sc sz v er W) (v' : Value) : HtH w g sc sz v' er (W.setCell ⟨w.heap.size, 3, none⟩ v') :=
 ⟨bU (cs := #[.int .u64 g, .int .i64 sc, .int .i64 sz, v]) hH.1 3 _ rfl, bR (p := ⟨w.heap.size, 3, none⟩) hH.2 (show w.heap.size + 1 ≠ w.heap.size by omega) _⟩
theorem ht_headR {w W : World} {g sc sz er : Int} {v u : Value} {l : List S53} (hR : Kd.R k53 53 W w.heap.size (fun _ => True) u l) (hH : HtH w g sc sz v er W) (v0 v1 v2 v3 v4 : Value) :
  Kd.R k53 53 (((((W.setCell ⟨w.heap.size, 0, none⟩ v0).setCell ⟨w.heap.size, 1, none⟩ v1).setCell ⟨w.heap.size, 2, none⟩ v2).setCell ⟨w.heap.size, 3, none⟩ v3).setCell ⟨w.heap.size + 1, 0, none⟩ v4) w.heap.size (fun _ => True) u l :=
 Kd.R_mono (Kd.R_far (p := ⟨w.heap.size + 1, 0, none⟩) (Kd.R_far (p := ⟨w.heap.size, 3, none⟩) (Kd.R_far (p := ⟨w.heap.size, 2, none⟩) (Kd.R_far (p := ⟨w.heap.size, 1, none⟩) (Kd.R_far (p := ⟨w.heap.size, 0, none⟩) (Kd.R_types (Kd.R_types hR hH.1 (by decide)) hH.2 (by decide)) (fun _ hk => hk.1.2) v0) (fun _ hk => hk.1.2) v1) (fun _ hk => hk.1.2) v2) (fun _ hk => hk.1.2) v3) (fun _ hk => hk.2) v4) (fun _ _ => trivial)
theorem ht_headJ {w W : World} {G : Nat} {l : ByteArray} {b : Bool} (h : IsS74 w W G l b) (hne : G ≠ w.heap.size) (g sc sz : Int) (v : Value) :
  IsS74 w ((((W.setCell ⟨w.heap.size, 0, none⟩ (.int .u64 g)).setCell ⟨w.heap.size, 1, none⟩ (.int .i64 sc)).setCell ⟨w.heap.size, 2, none⟩ (.int .i64 sz)).setCell ⟨w.heap.size, 3, none⟩ v) G l b :=
 ⟨bR (p := ⟨w.heap.size, 3, none⟩) (bR (p := ⟨w.heap.size, 2, none⟩) (bR (p := ⟨w.heap.size, 1, none⟩) (bR (p := ⟨w.heap.size, 0, none⟩) h.1 hne _) hne _) hne _) hne _, h.2⟩
theorem ht_keepR {w W W' : World} {v : Value} {l : List S53} {G : Nat} {f0 : ByteArray} {f1 : Bool} (hR : Kd.R k53 53 W w.heap.size (fun _ => True) v l) (hJ : IsS74 w W G f0 f1) (hk : KeepBut W W' G none) : Kd.R k53 53 W' w.heap.size (fun _ => True) v l :=
 Kd.R_mono (Kd.R_keep (hJ.apart hR (by decide)) hk (fun _ hk => hk.2)) (fun _ _ => trivial)
set_option maxHeartbeats 16000000 in
set_option maxRecDepth 100000 in
theorem head_Take.main (k : Nat) (s t nm l1 : ByteArray) (b1 : Bool) (g : Int) (l2 : ByteArray) (b2 : Bool) (sc : Int) (l3 : ByteArray) (b3 : Bool) (sz : Int) (l4 : ByteArray) (b4 : Bool) (mn : Nat) (l5 : ByteArray) (b5 : Bool) (ls : List S53) (l6 : ByteArray) (b6 : Bool) (r1 r2 r3 : Int) (r4 : List S53) (r5 : Int) (w : World) (h : s.size = 64) (ht : seal_Take.f s = some (t, 0))
  (a1 : le_Reader_Text.f t false 4 = some (nm, l1, b1)) (a2 : le_Reader_Number.f l1 b1 8 = some (g, l2, b2)) (a3 : le_Reader_Number.f l2 b2 2 = some (sc, l3, b3)) (a4 : le_Reader_Number.f l3 b3 4 = some (sz, l4, b4)) (a5 : le_Reader_Number.f l4 b4 1 = some ((mn : Int), l5, b5))
  (hmn : mn < 256) (a6 : head_Take.l mn l5 b5 [] = some (ls, l6, b6)) (hl6 : l6.size ≤ 1000) (a7 : head_Take.m k nm g (wrap64 sc) (wrap64 sz) ls l6 b6 = some (r1, r2, r3, r4, r5)) : Calls Tryd.prog 16 #[.string s] w (HtR w r1 r2 r3 r4 r5) := by
 have c1 : ((s.size : Int) == 64) = true := beq_iff_eq.mpr (by omega)
 have c2 : ((s.size : Int) != 64) = false := bne_eq_false_iff_eq.mpr (by omega)
 have HT := Ax.mk ht
 have A1 := Ax.mk a1
 have A2 := Ax.mk a2
 have A3 := Ax.mk a3
 have A4 := Ax.mk a4
 have A5 := Ax.mk a5
 have A6 := Ax.mk a6
 have A7 := Ax.mk a7
 have HMN := Ax.mk hmn
 have HL6 := Ax.mk hl6
 have hH0 := ht_start w
 have hB0 := below_alloc (below_alloc (Below.refl w.heap.size w) (.cells #[.int .u64 0, .int .i64 0, .int .i64 0, .slice none 0 0] 25)) (.cells #[.int .i64 0] 27)
 have HH0 := Ax.mk hH0
 have HB0 := Ax.mk hB0
 clear h ht hH0 hB0 a1 a2 a3 a4 a5 a6 a7 hmn hl6
 have hmf : ∀ (fn : Fn) (first cap : Array Value) (w : World), (Instr.makeFunc fn first cap).run Tryd.prog w = .ok (.func fn first cap) w := fun _ _ _ _ => rfl
 go_enter_defers Tryd.func16, Tryd.ntmps16
 go_wp2_with (first | (go_at_call 37; fail))
 refine (seal_Take.calls s t 0 _ HT.out).mono ?_
 rintro e W1 ⟨rfl, hb1⟩
 have hH1 := ht_below HH0.out hb1
 have HH1 := Ax.mk (ht_err hH1 0)
 have HB1 := Ax.mk (show Below w.heap.size w (W1.setCell ⟨w.heap.size + 1, 0, none⟩ (.int .i64 0)) from below_set (bP HB0.out hb1) (Nat.le_succ _))
 obtain ⟨⟨h0, h1, h2, h3, h4⟩, f0, f1, f2, f3, f4⟩ := ht_facts hH1
 have HGL := Ax.mk (show w.heap.size + 1 < W1.heap.size from (Array.getElem?_eq_some_iff.1 hH1.2).1)
 clear hH1 hb1
 go_wp2_with (first | (go_at_call 39; fail))
 clear h0 h1 h2 h3 h4 f0 f1 f2 f3 f4
 have J0 := IsS74.new w (W1.setCell ⟨w.heap.size + 1, 0, none⟩ (.int .i64 0)) t false HB1.out
 rw [show (W1.setCell ⟨w.heap.size + 1, 0, none⟩ (.int .i64 0)).heap.size = W1.heap.size by simp] at J0
 have D0 := below_alloc HB1.out (.cells #[.string t, .bool false] 74)
 have X0 := ht_below HH1.out (below_alloc (Below.refl _ _) (.cells #[.string t, .bool false] 74))
 have hGL := HGL.out
 clear HGL
 generalize (W1.setCell ⟨w.heap.size + 1, 0, none⟩ (.int .i64 0)).alloc (.cells #[.string t, .bool false] 74) = v0 at J0 D0 X0 ⊢
 generalize W1.heap.size = G at J0 hGL ⊢
 have HGL := Ax.mk hGL
 clear hGL HH1 HB1 HH0 HB0
 refine (le_Reader_Text.calls G t false 4 nm l1 b1 w _ J0 D0 A1.out).mono ?_
 rintro e v1 ⟨rfl, hJ, hD, hK⟩
 have J1 := Ax.mk hJ
 have D1 := Ax.mk hD
 have X1 := Ax.mk (ht_keepH X0 hK HGL.out)
 clear hJ hD hK J0 D0 X0
 go_wp2_with (first | (go_at_call 40; fail))
 refine (le_Reader_Number.calls G l1 b1 8 g l2 b2 w _ J1.out D1.out A2.out).mono ?_
 rintro e v2 ⟨rfl, hJ, hD, hK⟩
 have J2 := Ax.mk hJ
 have D2 := Ax.mk hD
 have X2 := Ax.mk (ht_keepH X1.out hK HGL.out)
 clear hJ hD hK J1 D1 X1
 go_wp2_with (first | (go_at_call 40; fail))
 refine (le_Reader_Number.calls G l2 b2 2 sc l3 b3 w _ J2.out D2.out A3.out).mono ?_
 rintro e v3 ⟨rfl, hJ, hD, hK⟩
 have J3 := Ax.mk hJ
 have D3 := Ax.mk hD
 have X3 := Ax.mk (ht_keepH X2.out hK HGL.out)
 clear hJ hD hK J2 D2 X2
 go_wp2_with (first | (go_at_call 40; fail))
 refine (le_Reader_Number.calls G l3 b3 4 sz l4 b4 w _ J3.out D3.out A4.out).mono ?_
 rintro e v4 ⟨rfl, hJ, hD, hK⟩
 have J4 := Ax.mk hJ
 have D4 := Ax.mk hD
 have hX4 := ht_keepH X3.out hK HGL.out
 obtain ⟨⟨h0, h1, h2, h3, h4⟩, f0, f1, f2, f3, f4⟩ := ht_facts hX4
 have X4 := Ax.mk hX4
 clear hJ hD hK hX4 J3 D3 X3
 go_wp2_with (first | (go_at_call 40; fail))
 clear h0 h1 h2 h3 h4 f0 f1 f2 f3 f4
 have X5 := ht_head X4.out g (wrap64 sc) (wrap64 sz) (.slice none 0 0)
 have D5 := ht_headB (g := g) (sc := wrap64 sc) (sz := wrap64 sz) (v := .slice none 0 0) D4.out
 have hne : G ≠ w.heap.size := by have := HGL.out; omega
 have J5 := ht_headJ J4.out hne g (wrap64 sc) (wrap64 sz) (.slice none 0 0)
 clear J4 D4 X4 hne
 generalize (((v4.setCell ⟨w.heap.size, 0, none⟩ (.int .u64 g)).setCell ⟨w.heap.size, 1, none⟩ (.int .i64 (wrap64 sc))).setCell ⟨w.heap.size, 2, none⟩ (.int .i64 (wrap64 sz))).setCell ⟨w.heap.size, 3, none⟩ (.slice none 0 0) = v5 at X5 D5 J5 ⊢
 generalize wrap64 sc = sc1 at X5 A7 ⊢
 generalize wrap64 sz = sz1 at X5 A7 ⊢
 refine (le_Reader_Number.calls G l4 b4 1 (mn : Int) l5 b5 w _ J5 D5 A5.out).mono ?_
 rintro e v6 ⟨rfl, hJ, hD, hK⟩
 have J6 := Ax.mk hJ
 have D6 := Ax.mk hD
 have X6 := Ax.mk (ht_keepH X5 hK HGL.out)
 clear hJ hD hK J5 D5 X5
 go_wp2
 go_loopw [37] (fun v37 wr => ∃ (j : Nat) (acc : List S53) (left : ByteArray) (bad : Bool) (v : Value), v37 = .int .u64 (j : Int) ∧ j ≤ mn ∧ Ax (head_Take.l (mn - j) left bad acc = some (ls, l6, b6)) ∧ Ax (acc.length = j) ∧ Ax (IsS74 w wr G left bad) ∧ Ax (Below w.heap.size w wr) ∧ Ax (HtH w g sc1 sz1 v 0 wr) ∧ Ax (Kd.R k53 53 wr w.heap.size (fun _ => True) v acc)) (fun v37 _ => mn - (intOf v37).toNat)
 case atStart => exact ⟨0, [], l5, b5, .slice none 0 0, rfl, Nat.zero_le _, A6, ⟨rfl⟩, J6, D6, X6, ⟨Kd.R_nil _ _ _ _ _⟩⟩
 case round =>
 clear J6 D6 X6 A6
 obtain ⟨j, acc, left, bad, v, rfl, hj, HG, HAL, J, B, H, R⟩ := hrel
 by_cases hlt : j < mn
 ·have HLT := Ax.mk hlt
  have hG := HG.out
  rw [show mn - j = (mn - (j + 1)) + 1 by omega, head_Take.l] at hG
  clear HG
  replace hG := Option.bind_eq_some_iff.1 hG
  obtain ⟨⟨x1, q1, d1⟩, hp1, hG⟩ := hG
  replace hG := Option.bind_eq_some_iff.1 hG
  obtain ⟨⟨x2, q2, d2⟩, hp2, hG⟩ := hG
  have P1 := Ax.mk hp1
  have P2 := Ax.mk hp2
  have HG := Ax.mk hG
  have hjb : j ≤ 1000 := by have := HMN.out; omega
  clear hp1 hp2 hG
  obtain ⟨⟨_, _, _, hv3, _⟩, _⟩ := ht_facts H.out
  go_wp2
  refine wp_region_noPanic ?_
  refine start_ (n := 13) (S := fun w' => w'.cell? ⟨w.heap.size, 3, none⟩ = some v) (ds := [12]) #[false, false, false, false, false, false, false, false, false, false, false, false, false] (by kernel_rfl) rfl rfl hv3 (fun hHeld => ?_)
  refine pure_ (i := 0) (N := some 39) (v := ?_) (a' := ?_) #[true, false, false, false, false, false, false, false, false, false, false, false, false] rfl rfl (by kernel_rfl) (fun _ _ _ h => h) (Or.inl ⟨by rfl, ?_⟩) ?_ ?_
  rotate_left
  ·intro w'
   go_simp
   with_reducible rfl
  rotate_left
  ·simp only [Act.put, setIfInBounds_toArray, set_cons_zero, set_cons_succ, i64_w, i32_w]
   rfl
  refine take_ (i := 1) (N := some 40) (v := ?_) (a' := ?_) #[true, true, false, false, false, false, false, false, false, false, false, false, false] rfl rfl (by kernel_rfl) (fun _ _ _ h => h) (Or.inl ⟨by rfl, ?_⟩) hHeld ?_ ?_
  rotate_left
  ·rintro w' hs0
   go_simp
   with_reducible rfl
  rotate_left
  ·simp only [Act.put, setIfInBounds_toArray, set_cons_zero, set_cons_succ, i64_w, i32_w]
   rfl
  refine pure_ (i := 2) (N := some 41) (v := ?_) (a' := ?_) #[true, true, true, false, false, false, false, false, false, false, false, false, false] rfl rfl (by kernel_rfl) (fun _ _ _ h => h) (Or.inl ⟨by rfl, ?_⟩) ?_ ?_
  rotate_left
  ·intro w'
   go_simp
   with_reducible rfl
  rotate_left
  ·simp only [Act.put, setIfInBounds_toArray, set_cons_zero, set_cons_succ, i64_w, i32_w]
   rfl
  refine pure_ (i := 5) (N := some 44) (v := ?_) (a' := ?_) #[true, true, true, false, false, true, false, false, false, false, false, false, false] rfl rfl (by kernel_rfl) (fun _ _ _ h => h) (Or.inl ⟨by rfl, ?_⟩) ?_ ?_
  rotate_left
  ·intro w'
   go_simp
   with_reducible rfl
  rotate_left
  ·simp only [Act.put, setIfInBounds_toArray, set_cons_zero, set_cons_succ, i64_w, i32_w]
   rfl
  generalize hwd : wr.drew = wd at hHeld ⊢
  have JD := Ax.mk (show IsS74 w wd G left bad from hwd ▸ J.out)
  have BD := Ax.mk (show Below w.heap.size w wd from hwd ▸ below_drew1 B.out)
  have HD := Ax.mk (show HtH w g sc1 sz1 v 0 wd from hwd ▸ ht_drew H.out)
  have RD := Ax.mk (show Kd.R k53 53 wd w.heap.size (fun _ => True) v acc from hwd ▸ Kd.R_drew R.out)
  clear J B H R hv3 hwd
  refine one_ (i := 3) (N := some 42) #[true, true, true, true, false, true, false, false, false, false, false, false, false] rfl rfl (by kernel_rfl) (by decide) (fun K hK => ?_)
  refine goes_ Tryd.func40 (by kernel_rfl) rfl #[.pointer (some ⟨G, 0, none⟩), .int .i64 2] (by rfl) rfl rfl (by (try simp only [List.map_toArray, List.map_cons, List.map_nil]); rfl) ?_
  refine (le_Reader_Number.calls G left bad 2 x1 q1 d1 w _ JD.out BD.out P1.out).mono ?_
  rintro e w1 ⟨rfl, hJ, hB, hKp⟩
  have HE := Ax.mk (ht_keepH HD.out hKp HGL.out)
  have RE := Ax.mk (ht_keepR RD.out JD.out hKp)
  have JE := Ax.mk hJ
  have BE := Ax.mk hB
  clear hJ hB hKp HD RD JD BD
  refine ⟨_, rfl, ?_⟩
  refine hK.out _ _ (show _ = _ from (bC HE.out.1 3).trans rfl) (fun hHeld => ?_)
  clear hK K
  refine norm_ (a' := ?_) ?_ ?_
  rotate_left
  ·show Act.put _ (some 42) _ = _
   simp only [Act.put, setIfInBounds_toArray, set_cons_zero, set_cons_succ, i64_w, i32_w]
   rfl
  refine pure_ (i := 4) (N := some 43) (v := ?_) (a' := ?_) #[true, true, true, true, true, true, false, false, false, false, false, false, false] rfl rfl (by kernel_rfl) (fun _ _ _ h => h) (Or.inl ⟨by rfl, ?_⟩) ?_ ?_
  rotate_left
  ·intro w'
   go_simp
   with_reducible rfl
  rotate_left
  ·simp only [Act.put, setIfInBounds_toArray, set_cons_zero, set_cons_succ, i64_w, i32_w]
   rfl
  refine one_ (i := 6) (N := some 45) #[true, true, true, true, true, true, true, false, false, false, false, false, false] rfl rfl (by kernel_rfl) (by decide) (fun K hK => ?_)
  refine goes_ Tryd.func40 (by kernel_rfl) rfl #[.pointer (some ⟨G, 0, none⟩), .int .i64 2] (by rfl) rfl rfl (by (try simp only [List.map_toArray, List.map_cons, List.map_nil]); rfl) ?_
  refine (le_Reader_Number.calls G q1 d1 2 x2 q2 d2 w _ JE.out BE.out P2.out).mono ?_
  rintro e w2 ⟨rfl, hJ, hB, hKp⟩
  have HF := Ax.mk (ht_keepH HE.out hKp HGL.out)
  have RF := Ax.mk (ht_keepR RE.out JE.out hKp)
  have JF := Ax.mk hJ
  have BF := Ax.mk hB
  clear hJ hB hKp HE RE JE BE
  refine ⟨_, rfl, ?_⟩
  refine hK.out _ _ (show _ = _ from (bC HF.out.1 3).trans rfl) (fun hHeld => ?_)
  clear hK K
  refine norm_ (a' := ?_) ?_ ?_
  rotate_left
  ·show Act.put _ (some 45) _ = _
   simp only [Act.put, setIfInBounds_toArray, set_cons_zero, set_cons_succ, i64_w, i32_w]
   rfl
  refine pure_ (i := 7) (N := some 46) (v := ?_) (a' := ?_) #[true, true, true, true, true, true, true, true, false, false, false, false, false] rfl rfl (by kernel_rfl) (fun _ _ _ h => h) (Or.inl ⟨by rfl, ?_⟩) ?_ ?_
  rotate_left
  ·intro w'
   go_simp
   with_reducible rfl
  rotate_left
  ·simp only [Act.put, setIfInBounds_toArray, set_cons_zero, set_cons_succ, i64_w, i32_w]
   rfl
  refine pure_ (i := 8) (N := some 47) (v := ?_) (a' := ?_) #[true, true, true, true, true, true, true, true, true, false, false, false, false] rfl rfl (by kernel_rfl) (fun _ _ _ h => h) (Or.inl ⟨by rfl, ?_⟩) ?_ ?_
  rotate_left
  ·intro w'
   go_simp
   with_reducible rfl
  rotate_left
  ·simp only [Act.put, setIfInBounds_toArray, set_cons_zero, set_cons_succ, i64_w, i32_w]
   rfl
  refine one_ (i := 9) (N := some 48) #[true, true, true, true, true, true, true, true, true, true, false, false, false] rfl rfl (by kernel_rfl) (by decide) (fun K hK => ?_)
  refine value_ (w1 := ?_) (v := ?_) (by rfl) rfl ?_ ?_
  rotate_left 2
  ·go_simp
   constructor
   ·rfl
   ·rfl
  refine hK.out _ _ (show _ = _ from (bC (blk_alloc HF.out.1 _) 3).trans rfl) (fun hHeld => ?_)
  clear hK K
  refine norm_ (a' := ?_) ?_ ?_
  rotate_left
  ·show Act.put _ (some 48) _ = _
   simp only [Act.put, setIfInBounds_toArray, set_cons_zero, set_cons_succ, i64_w, i32_w]
   rfl
  refine one_ (i := 10) (N := some 49) #[true, true, true, true, true, true, true, true, true, true, true, false, false] rfl rfl (by kernel_rfl) (by decide) (fun K hK => ?_)
  refine Kd.R_append_step k53 (w0 := w) w.heap.size (by rfl) (.tmp 40) (.tmp 48) 23 53 (.agg #[(.int .i64 0), (.int .i64 0)]) 16 rfl Tryd.underlying23 info53 rfl (by decide) (by omega) v acc (⟨wrap64 x1, wrap64 x2⟩ : S53) [.int .i64 (wrap64 x1), .int .i64 (wrap64 x2)] (fun _ => True) (fun _ => False) rfl rfl (k53_mkM _ _ _ (⟨wrap64 x1, wrap64 x2⟩ : S53)) (fun _ hk => hk.elim) (fun _ _ => trivial) RF.out BF.out (bS BF.out) (by have := HAL.out; have := HMN.out; omega) ?_
  intro v9 w9 ho hb hg hat
  have R9 := Ax.mk ho
  have B9 := Ax.mk hb
  have J9 := Ax.mk (JF.out.grown hg (JF.out.own_ne RF.out (by decide)))
  have H9 := Ax.mk (show HtH w g sc1 sz1 v 0 w9 from ⟨blk_grown HF.out.1 hg (Kd.R_ne RF.out HF.out.1 (by decide)), blk_grown HF.out.2 hg (Kd.R_ne RF.out HF.out.2 (by decide))⟩)
  clear ho hb hg hat JF BF HF RF
  refine hK.out _ _ (show _ = _ from (bC H9.out.1 3).trans rfl) (fun hHeld => ?_)
  clear hK K
  refine norm_ (a' := ?_) ?_ ?_
  rotate_left
  ·show Act.put _ (some 49) _ = _
   simp only [Act.put, setIfInBounds_toArray, set_cons_zero, set_cons_succ, i64_w, i32_w]
   rfl
  refine pure_ (i := 11) (N := some 50) (v := ?_) (a' := ?_) #[true, true, true, true, true, true, true, true, true, true, true, true, false] rfl rfl (by kernel_rfl) (fun _ _ _ h => h) (Or.inl ⟨by rfl, ?_⟩) ?_ ?_
  rotate_left
  ·intro w'
   go_simp
   with_reducible rfl
  rotate_left
  ·simp only [Act.put, setIfInBounds_toArray, set_cons_zero, set_cons_succ, i64_w, i32_w]
   rfl
  refine last_ (i := 12) (N := none) #[true, true, true, true, true, true, true, true, true, true, true, true, true] rfl rfl (by kernel_rfl) (by decide) (fun K hK => ?_)
  obtain ⟨A9, c9, rfl⟩ := Kd.R_slice R9.out
  rw [show (acc ++ [(⟨wrap64 x1, wrap64 x2⟩ : S53)]).length = acc.length + 1 by simp] at R9
  have hs9 : w9.cell? ⟨w.heap.size, 3, none⟩ = some v := (bC H9.out.1 3).trans rfl
  have hf9 := bF H9.out.1 3
  refine skip_ (w1 := ?_) (by rfl) rfl ?_ ?_
  rotate_left
  ·go_simp
   rfl
  refine hK.out _ _ ?_
  clear hK K
  refine done_ (by kernel_rfl) ?_
  go_wp2
  apply_assumption
  go_wp2
  go_roundw
  case rel => exact ⟨j + 1, acc ++ [⟨wrap64 x1, wrap64 x2⟩], q2, d2, .slice A9 _ c9, by go_num, HLT.out, HG, ⟨by rw [List.length_append, HAL.out]; rfl⟩, ⟨⟨bR (p := ⟨w.heap.size, 3, none⟩) J9.out.1 (by have := HGL.out; show G ≠ w.heap.size; omega) _, J9.out.2⟩⟩, ⟨below_set B9.out (Nat.le_refl _)⟩, ⟨ht_span H9.out _⟩, ⟨Kd.R_mono (Kd.R_far (p := ⟨w.heap.size, 3, none⟩) (Kd.R_types R9.out H9.out.1 (by decide)) (fun _ hk => hk.2) _) (fun _ _ => trivial)⟩⟩
  case measure => have := HLT.out; simp [intOf]; omega
 ·obtain rfl : j = mn := by omega
  have hG := HG.out
  rw [Nat.sub_self, head_Take.l] at hG
  cases hG
  have hx := A7.out
  clear HG A7
  unfold head_Take.m at hx
  have q0 := cellS74_0 J.out.1
  have q1 := cellS74_1 J.out.1
  obtain ⟨A0, c0, rfl⟩ := Kd.R_slice R.out
  obtain ⟨⟨h0, h1, h2, h3, h4⟩, f0, f1, f2, f3, f4⟩ := ht_facts H.out
  cases b6 with
  | true =>
   rw [if_pos rfl] at hx
   cases hx
   go_wp2
   exact ht_doorNo (by decide) rfl rfl (ht_err (ht_head H.out g sc1 sz1 _) 2) (below_set (ht_headB B.out) (Nat.le_succ _))
  | false =>
   rw [if_neg (by decide)] at hx
   by_cases hnm : nm.toList = [114, 116, 99, 108]
   case neg =>
    rw [if_neg hnm] at hx
    cases hx
    have n1 : (nm.toList == [114, 116, 99, 108]) = false := beq_eq_false_iff_ne.mpr hnm
    have n2 : (nm.toList != [114, 116, 99, 108]) = true := bne_iff_ne.mpr hnm
    clear hnm
    go_wp2
    exact ht_doorNo (by decide) rfl rfl (ht_err (ht_head H.out g sc1 sz1 _) 2) (below_set (ht_headB B.out) (Nat.le_succ _))
   rw [if_pos hnm] at hx
   have n1 : (nm.toList == [114, 116, 99, 108]) = true := beq_iff_eq.mpr hnm
   have n2 : (nm.toList != [114, 116, 99, 108]) = false := bne_eq_false_iff_eq.mpr hnm
   have HX := Ax.mk hx
   clear hnm hx
   go_wp2_with (first | (go_at_call 41; fail))
   refine (Sh.strings_Trim_one l6 0 (by decide) wr (by have := HL6.out; omega)).mono ?_
   rintro e W2 ⟨rfl, hw⟩
   have hH2 : HtH w g sc1 sz1 (.slice A0 ls.length c0) 0 W2 := by rcases hw with rfl | rfl; exact H.out; exact ht_drew H.out
   have hB2 : Below w.heap.size w W2 := by rcases hw with rfl | rfl; exact B.out; exact below_drew1 B.out
   have hR2 : Kd.R k53 53 W2 w.heap.size (fun _ => True) (.slice A0 ls.length c0) ls := by rcases hw with rfl | rfl; exact R.out; exact Kd.R_drew R.out
   clear hw H B R J h0 h1 h2 h3 h4 f0 f1 f2 f3 f4 q0 q1
   obtain ⟨⟨h0, h1, h2, h3, h4⟩, f0, f1, f2, f3, f4⟩ := ht_facts hH2
   have H := Ax.mk hH2
   have B := Ax.mk hB2
   have R := Ax.mk hR2
   have hx := HX.out
   clear hH2 hB2 hR2 HX
   have htl : (⟨(Lib.trimB l6.data.toList 0).toArray⟩ : ByteArray).toList = Lib.trimB l6.data.toList 0 := by rw [ByteArray.toList_eq]
   generalize (⟨(Lib.trimB l6.data.toList 0).toArray⟩ : ByteArray) = tr at htl ⊢
   by_cases htr : Lib.trimB l6.data.toList 0 = []
   case neg =>
    rw [if_neg htr] at hx
    cases hx
    rw [← htl] at htr
    have m1 : (tr.toList == []) = false := beq_eq_false_iff_ne.mpr htr
    have m2 : (tr.toList != []) = true := bne_iff_ne.mpr htr
    clear htr htl
    go_wp2
    exact ht_doorNo (by decide) rfl rfl (ht_err (ht_head H.out g sc1 sz1 _) 2) (below_set (ht_headB B.out) (Nat.le_succ _))
   rw [if_pos htr] at hx
   rw [← htl] at htr
   have m1 : (tr.toList == []) = true := beq_iff_eq.mpr htr
   have m2 : (tr.toList != []) = false := bne_eq_false_iff_eq.mpr htr
   clear htr htl
   replace hx := Option.bind_eq_some_iff.1 hx
   obtain ⟨ok, hr, hx⟩ := hx
   have HR := Ax.mk hr
   have HX := Ax.mk hx
   clear hr hx
   go_wp2_with (first | (go_at_call 13; fail))
   refine (head_Right.calls k g sc1 sz1 A0 c0 ls ok W2 (Kd.R_reads' R.out).2.2 (Kd.R_reads' R.out).2.1 HR.out).mono ?_
   rintro e W3 ⟨rfl, hb3⟩
   have hH3 := ht_below H.out hb3
   have B3 := Ax.mk (bP B.out hb3)
   have R3 := Ax.mk (Kd.R_below R.out hb3)
   clear hb3 H B R h0 h1 h2 h3 h4 f0 f1 f2 f3 f4 HR
   obtain ⟨⟨h0, h1, h2, h3, h4⟩, f0, f1, f2, f3, f4⟩ := ht_facts hH3
   have H := Ax.mk hH3
   clear hH3
   have hx := HX.out
   clear HX
   cases ok with
   | false =>
    rw [if_neg (by decide)] at hx
    cases hx
    go_wp2
    exact ht_doorNo (by decide) rfl rfl (ht_err (ht_head H.out g sc1 sz1 _) 2) (below_set (ht_headB B3.out) (Nat.le_succ _))
   | true =>
    rw [if_pos rfl] at hx
    cases hx
    go_wp2
    exact ht_doorOk rfl rfl (ht_err (ht_head H.out g r2 r3 _) 0) (ht_headR R3.out H.out _ _ _ _ _) (below_set (ht_headB B3.out) (Nat.le_succ _))
theorem head_Take.calls (k : Nat) (a0 : ByteArray) (r1 r2 r3 : Int) (r4 : List S53) (r5 : Int) (w : World) (h : head_Take.f k a0 = some (r1, r2, r3, r4, r5)) :
  Calls Tryd.prog 16 #[.string a0] w fun e w' => ∃ v1_, e = .returned (.tuple #[.agg #[.int .u64 r1, .int .i64 r2, .int .i64 r3, v1_], .int .i64 r5]) ∧ Kd.R k53 53 w' w.heap.size (fun _ => True) v1_ r4 ∧ Below w.heap.size w w' := by
 unfold head_Take.f at h
 by_cases h0 : a0.size = 64
 case neg =>
  rw [if_neg h0] at h
  cases h
  exact head_Take.size a0 w h0
 rw [if_pos h0] at h
 replace h := Option.bind_eq_some_iff.1 h
 obtain ⟨⟨t, er⟩, ht, h⟩ := h
 by_cases he : er = 0
 case neg =>
  rw [if_neg he] at h
  cases h
  exact head_Take.seal a0 t er w h0 ht he
 subst he
 rw [if_pos rfl] at h
 replace h := Option.bind_eq_some_iff.1 h
 obtain ⟨⟨nm, l1, b1⟩, a1, h⟩ := h
 replace h := Option.bind_eq_some_iff.1 h
 obtain ⟨⟨g, l2, b2⟩, a2, h⟩ := h
 replace h := Option.bind_eq_some_iff.1 h
 obtain ⟨⟨sc, l3, b3⟩, a3, h⟩ := h
 replace h := Option.bind_eq_some_iff.1 h
 obtain ⟨⟨sz, l4, b4⟩, a4, h⟩ := h
 replace h := Option.bind_eq_some_iff.1 h
 obtain ⟨⟨mn, l5, b5⟩, a5, h⟩ := h
 by_cases hm : 0 ≤ mn ∧ mn < 256 ∧ l5.size ≤ 1000
 case neg => rw [if_neg hm] at h; cases h
 rw [if_pos hm] at h
 replace h := Option.bind_eq_some_iff.1 h
 obtain ⟨⟨ls, l6, b6⟩, a6, h⟩ := h
 by_cases hl : l6.size ≤ 1000
 case neg => rw [if_neg hl] at h; cases h
 rw [if_pos hl] at h
 obtain ⟨n, rfl⟩ : ∃ n : Nat, mn = (n : Int) := ⟨mn.toNat, by omega⟩
 exact head_Take.main k a0 t nm l1 b1 g l2 b2 sc l3 b3 sz l4 b4 n l5 b5 ls l6 b6 r1 r2 r3 r4 r5 w h0 ht a1 a2 a3 a4 a5 (by omega) a6 hl h
def r6_Take.l0 : Nat → ByteArray → ByteArray → Int → Int → Int → Int → Int → List (S53) → Option (Int × Int × Int × (List (S53)) × Int)
 | 0, _, _, _, _, _, _, _, _ => none
 | k + 1, x0, x4, x6, x8, x230000, x230001, x230002, x230003 => if x8 < x6 then (if 0 ≤ (wrap64 (19 + (wrap64 (4 * x8)))) then (if (wrap64 (19 + (wrap64 (4 * x8)))) ≤ (wrap64 (21 + (wrap64 (4 * x8)))) then (if (wrap64 (21 + (wrap64 (4 * x8)))) ≤ (x4.size : Int) then ((r2_Get.f k (x4.extract ((wrap64 (19 + (wrap64 (4 * x8)))) : Int).toNat ((wrap64 (21 + (wrap64 (4 * x8)))) : Int).toNat)).bind fun t230 => (if 0 ≤ (wrap64 (21 + (wrap64 (4 * x8)))) then (if (wrap64 (21 + (wrap64 (4 * x8)))) ≤ (wrap64 (23 + (wrap64 (4 * x8)))) then (if (wrap64 (23 + (wrap64 (4 * x8)))) ≤ (x4.size : Int) then ((r2_Get.f k (x4.extract ((wrap64 (21 + (wrap64 (4 * x8)))) : Int).toNat ((wrap64 (23 + (wrap64 (4 * x8)))) : Int).toNat)).bind fun t231 => (if x230003.length < 8796093022208 then (r6_Take.l0 k x0 x4 x6 (wrap64 (x8 + 1)) x230000 x230001 x230002 (x230003 ++ [(⟨wrap64 (t230), wrap64 (t231)⟩ : S53)])) else (none))) else (none)) else (none)) else (none))) else (none)) else (none)) else (none)) else ((r6_Put.f k x230000 x230001 x230002 x230003).bind fun bt235 => (if bt235.2 = 0 then (if bt235.1.toList = x0.toList then (some (x230000, x230001, x230002, x230003, 0)) else (some (0, 0, 0, ([] : List (S53)), 2))) else (some (0, 0, 0, ([] : List (S53)), 2))))
def r6_Take.f (k : Nat) (a0 : ByteArray) : Option (Int × Int × Int × (List (S53)) × Int) := if (a0.size : Int) = 64 then ((r3_Take.f k a0).bind fun bt224 => (if bt224.2 = 0 then (if 18 < (bt224.1.size : Int) then (if (wrap64 (bt bt224.1 18)) > 8 then (some (0, 0, 0, ([] : List (S53)), 2)) else (if 4 ≤ 12 then (if 12 ≤ (bt224.1.size : Int) then ((r2_Get.f k (bt224.1.extract 4 12)).bind fun t226 => (if 12 ≤ 14 then (if 14 ≤ (bt224.1.size : Int) then ((r2_Get.f k (bt224.1.extract 12 14)).bind fun t227 => (if 14 ≤ 18 then (if 18 ≤ (bt224.1.size : Int) then ((r2_Get.f k (bt224.1.extract 14 18)).bind fun t228 => (r6_Take.l0 k a0 bt224.1 (wrap64 (bt bt224.1 18)) 0 t226 (wrap64 (t227)) (wrap64 (t228)) ([] : List (S53)))) else (none)) else (none))) else (none)) else (none))) else (none)) else (none))) else (none)) else (some (0, 0, 0, ([] : List (S53)), bt224.2)))) else (some (0, 0, 0, ([] : List (S53)), 1))
theorem r6_Take.mono_l : ∀ k, (∀ y0 y1 y2 y3 y4 y5 y6 y7, LeO (r6_Take.l0 k y0 y1 y2 y3 y4 y5 y6 y7) (r6_Take.l0 (k + 1) y0 y1 y2 y3 y4 y5 y6 y7))
 | 0 => fun _ _ _ _ _ _ _ _ r h => by simp [r6_Take.l0] at h
 | k + 1 => by
  have ih0 := r6_Take.mono_l k
  ·intro y0 y1 y2 y3 y4 y5 y6 y7
   unfold r6_Take.l0
   repeat' first
   | (with_reducible exact ih0 _ _ _ _ _ _ _ _)
   | (with_reducible exact r2_Get.mono _ _)
   | (with_reducible exact r3_Take.mono _ _)
   | (with_reducible exact r6_Put.mono _ _ _ _ _)
   | (with_reducible exact LeO.refl _)
   | (with_reducible exact LeO.none _)
   | (with_reducible refine LeO.ite ?_ ?_)
   | (with_reducible refine LeO.bind ?_ (fun _ => ?_))
   | exact ih0 _ _ _ _ _ _ _ _
   | exact r2_Get.mono _ _
   | exact r3_Take.mono _ _
   | exact r6_Put.mono _ _ _ _ _
   | exact LeO.none _
   | refine LeO.ite ?_ ?_
   | refine LeO.bind ?_ (fun _ => ?_)
theorem r6_Take.mono : ∀ a0 k, LeO (r6_Take.f k a0) (r6_Take.f (k + 1) a0) := by
 intro a0 k
 have ih0 := r6_Take.mono_l k
 unfold r6_Take.f
 repeat' first
   | (with_reducible exact ih0 _ _ _ _ _ _ _ _)
   | (with_reducible exact r2_Get.mono _ _)
   | (with_reducible exact r3_Take.mono _ _)
   | (with_reducible exact r6_Put.mono _ _ _ _ _)
   | (with_reducible exact LeO.refl _)
   | (with_reducible exact LeO.none _)
   | (with_reducible refine LeO.ite ?_ ?_)
   | (with_reducible refine LeO.bind ?_ (fun _ => ?_))
   | exact ih0 _ _ _ _ _ _ _ _
   | exact r2_Get.mono _ _
   | exact r3_Take.mono _ _
   | exact r6_Put.mono _ _ _ _ _
   | exact LeO.none _
   | refine LeO.ite ?_ ?_
   | refine LeO.bind ?_ (fun _ => ?_)
def r6_Take.T9 : Bool × List (List Nat × List Nat) := (true, [([], []), ([0], [0]), ([1], [1]), ([], []), ([3], [3]), ([4, 2], [4]), ([5], [5]), ([], []), ([7], [7]), ([8, 5], [8]), ([9], [9]), ([2, 6, 10], [2, 6, 10]), ([], []), ([12, 11, 9, 0, 1, 2, 3, 4, 5, 6, 7, 8, 9, 10, 11, 12], [11, 12])])
def r6_Take.B9 : List Nat := [0, 1, 3, 0, 8, 31, 63, 0, 128, 447, 959, 2047, 0, 8191]
theorem r6_Take.tab9 : rtab .any (opsOf Tryd.f17 9) = r6_Take.T9 := by kernel_rfl
theorem r6_Take.bits9 : waitsOk r6_Take.T9.2 r6_Take.B9 = true := by kernel_rfl
def r6_Take.T13 : Bool × List (List Nat × List Nat) := (true, [([], []), ([0], [0]), ([], []), ([], []), ([3], [3]), ([4], [4]), ([], []), ([6], [6]), ([7], [7]), ([2, 5, 8], [2, 5, 8]), ([9], [9]), ([10], [10]), ([], []), ([], []), ([13], [13]), ([14], [14]), ([], []), ([16], [16]), ([17], [17]), ([12, 15, 18], [12, 15, 18]), ([19, 10], [19]), ([20], [20]), ([11, 21], [11, 21]), ([22], [22]), ([1, 23, 20], [1, 23]), ([0, 1, 2, 3, 4, 5, 6, 7, 8, 9, 10, 11, 12, 13, 14, 15, 16, 17, 18, 19, 20, 21, 22, 23, 24], []), ([25, 24, 24, 0, 1, 2, 3, 4, 5, 6, 7, 8, 9, 10, 11, 12, 13, 14, 15, 16, 17, 18, 19, 20, 21, 22, 23, 24], [24, 25])])
def r6_Take.B13 : List Nat := [0, 1, 0, 0, 8, 24, 0, 64, 192, 508, 1020, 2044, 0, 0, 8192, 24576, 0, 65536, 196608, 520192, 1046524, 2095100, 4194300, 8388604, 16777215, 33554431, 67108863]
theorem r6_Take.tab13 : rtab .any (opsOf Tryd.f17 13) = r6_Take.T13 := by kernel_rfl
theorem r6_Take.bits13 : waitsOk r6_Take.T13.2 r6_Take.B13 = true := by kernel_rfl
set_option maxHeartbeats 8000000 in
set_option maxRecDepth 100000 in
theorem r6_Take.calls (k : Nat) (a0 : ByteArray) (r1 : Int) (r2 : Int) (r3 : Int) (r4 : List (S53)) (r5 : Int) (w : World) (h : r6_Take.f k a0 = some (r1, r2, r3, r4, r5)) :
  Calls Tryd.prog 17 #[.string a0] w fun e w' => ∃ v3_ : Value, e = .returned (.tuple #[.agg #[.int .u64 r1, .int .i64 r2, .int .i64 r3, v3_], .int .i64 r5]) ∧ Kd.R k53 53 w' w.heap.size (fun _ => True) v3_ r4 ∧ Below w.heap.size w w' := by
 have hu31 := Tryd.underlying31
 have hu53 := Tryd.underlying53
 have HB := Ax.mk (Below.refl w.heap.size w)
 have H : (if (a0.size : Int) = 64 then ((r3_Take.f k a0).bind fun bt224 => (if bt224.2 = 0 then (if 18 < (bt224.1.size : Int) then (if (wrap64 (bt bt224.1 18)) > 8 then (some (0, 0, 0, ([] : List (S53)), 2)) else (if 4 ≤ 12 then (if 12 ≤ (bt224.1.size : Int) then ((r2_Get.f k (bt224.1.extract 4 12)).bind fun t226 => (if 12 ≤ 14 then (if 14 ≤ (bt224.1.size : Int) then ((r2_Get.f k (bt224.1.extract 12 14)).bind fun t227 => (if 14 ≤ 18 then (if 18 ≤ (bt224.1.size : Int) then ((r2_Get.f k (bt224.1.extract 14 18)).bind fun t228 => (r6_Take.l0 k a0 bt224.1 (wrap64 (bt bt224.1 18)) 0 t226 (wrap64 (t227)) (wrap64 (t228)) ([] : List (S53)))) else (none)) else (none))) else (none)) else (none))) else (none)) else (none))) else (none)) else (some (0, 0, 0, ([] : List (S53)), bt224.2)))) else (some (0, 0, 0, ([] : List (S53)), 1))) = some (r1, r2, r3, r4, r5) := h
 clear h
 by_cases c2 : (a0.size : Int) = 64
 ·rw [if_pos c2] at H
  have c2b0 : ((a0.size : Int) == 64) = true := beq_iff_eq.mpr c2
  have c2b1 : ((a0.size : Int) != 64) = false := bne_eq_false_iff_eq.mpr c2
  clear c2
  replace H := Option.bind_eq_some_iff.mp H
  obtain ⟨⟨t224, t225⟩, A30, H⟩ := H
  replace H : (if t225 = 0 then (if 18 < (t224.size : Int) then (if (wrap64 (bt t224 18)) > 8 then (some (0, 0, 0, ([] : List (S53)), 2)) else (if 4 ≤ 12 then (if 12 ≤ (t224.size : Int) then ((r2_Get.f k (t224.extract 4 12)).bind fun t226 => (if 12 ≤ 14 then (if 14 ≤ (t224.size : Int) then ((r2_Get.f k (t224.extract 12 14)).bind fun t227 => (if 14 ≤ 18 then (if 18 ≤ (t224.size : Int) then ((r2_Get.f k (t224.extract 14 18)).bind fun t228 => (r6_Take.l0 k a0 t224 (wrap64 (bt t224 18)) 0 t226 (wrap64 (t227)) (wrap64 (t228)) ([] : List (S53)))) else (none)) else (none))) else (none)) else (none))) else (none)) else (none))) else (none)) else (some (0, 0, 0, ([] : List (S53)), t225))) = some (r1, r2, r3, r4, r5) := H
  have A3 := Ax.mk A30
  clear A30
  by_cases c4 : t225 = 0
  ·rw [if_pos c4] at H
   have c4b0 : (t225 == 0) = true := beq_iff_eq.mpr c4
   have c4b1 : (t225 != 0) = false := bne_eq_false_iff_eq.mpr c4
   clear c4
   by_cases c5 : 18 < (t224.size : Int)
   ·rw [if_pos c5] at H
    have c5b0 : decide (18 < (t224.size : Int)) = true := decide_eq_true c5
    have c5b1 : decide (18 < t224.size) = true := decide_eq_true (by omega)
    clear c5
    by_cases c7 : (wrap64 (bt t224 18)) > 8
    ·rw [if_pos c7] at H
     have c7b0 : decide (8 < (wrap64 (bt t224 18))) = true := decide_eq_true c7
     clear c7
     simp only [Option.some.injEq, Prod.mk.injEq] at H
     obtain ⟨rfl, rfl, rfl, rfl, rfl⟩ := H
     go_enter Tryd.func17, Tryd.ntmps17
     go_wp2_with (first | ((with_reducible refine gate_dst (N := 2) rfl ?_); refine box_event ?hg (N := 2) ?hd (cs := #[.int .u64 0, .int .i64 0, .int .i64 0, .slice none 0 0]) (t := 31) ?hr ?_; (case hd => rfl); (case hg => rfl); (case hr => first | (go_simp; done) | (go_simp; rfl)); intro gb223 hg w8 hbox hb; have n0_ := Ax.mk (bP bA hb); have n1_ := Ax.mk (hbox); have n2_ := Ax.mk ((ge_new hg : w.heap.size ≤ gb223)); have n3_ := n2_; clear HB; have HB := n0_; have BK223 := n1_; have GW223 := n2_; have GE223 := n3_; clear n0_ n1_ n2_ n3_; clear hb hbox hg) | ((with_reducible refine gate_callee (f := 42) rfl ?_); refine goesL_ (some 17) rfl rfl Tryd.func42 (by kernel_rfl) rfl #[.string a0] rfl (by (try simp only [List.map_toArray, List.map_cons, List.map_nil]); first | done | rfl | (simp only [List.length_drop, List.length_take]; rfl) | (rw [wrap_sum2 (by assumption)]; rfl)) ?_; (with_reducible refine (r3_Take.calls k a0 t224 t225 _ A3.out).mono ?_); rintro e w9 ⟨rfl, hb⟩; refine ⟨_, rfl, ?_⟩; have n0_ := Ax.mk (bB (bT BK223.out) hb); have n1_ := Ax.mk (bP bA hb); clear BK223; clear HB; have BK223 := n0_; have HB := n1_; clear n0_ n1_; (try clear hb); (try clear hb2); (try clear hk); (try clear hi); have p6 : 0 ≤ (18 : Int) := (by omega); have q6 : 18 < t224.size := (by have : (18 : Int) < (t224.size : Int) := of_decide_eq_true (by first | (with_reducible assumption) | assumption); omega); have hx6 : ∀ h : 18 < t224.size, ((t224[18]'h).toNat : Int) = bt t224 18 := bt_at t224 18; clear p6; have qi6 : (18 < (t224.size : Int)) = True := eq_true (of_decide_eq_true (by first | (with_reducible assumption) | assumption)); replace q6 := eq_true q6; have hcz10_0 : w9.cell? ⟨gb223, 0, none⟩ = some (.int .u64 0) := (bC BK223.out 0).trans rfl; have hcz10_1 : w9.cell? ⟨gb223, 1, none⟩ = some (.int .i64 0) := (bC BK223.out 1).trans rfl; have hcz10_2 : w9.cell? ⟨gb223, 2, none⟩ = some (.int .i64 0) := (bC BK223.out 2).trans rfl; have hcz10_3 : w9.cell? ⟨gb223, 3, none⟩ = some (.slice none 0 0) := (bC BK223.out 3).trans rfl; have hfz10_0 := bF BK223.out 0; have hfz10_1 := bF BK223.out 1; have hfz10_2 := bF BK223.out 2; have hfz10_3 := bF BK223.out 3))
     refine bodyPost_ret (results_ct rfl _ _ gb223 31 #[.int .u64 0, .int .i64 0, .int .i64 0, .slice none 0 0] (0, 0) _ rfl (by refine bT ?_; refine bU (cs := #[.int .u64 0, .int .i64 0, .int .i64 0, .slice none 0 0]) ?_ 3 _ rfl; refine bT ?_; refine bU (cs := #[.int .u64 0, .int .i64 0, .int .i64 0, .slice none 0 0]) ?_ 2 _ rfl; refine bT ?_; refine bU (cs := #[.int .u64 0, .int .i64 0, .int .i64 0, .slice none 0 0]) ?_ 1 _ rfl; refine bT ?_; refine bU (cs := #[.int .u64 0, .int .i64 0, .int .i64 0, .slice none 0 0]) ?_ 0 _ rfl; exact bT BK223.out) Tryd.underlying31 rfl (by kernel_rfl)) rfl ?_
     exact ⟨_, by first | rfl | (simp [errW_none, errW_some] <;> rfl) | (simp [*, errW_none, errW_some] <;> rfl), by first | exact Kd.R_nil _ _ _ _ _ | exact Kd.N_nil _ _ _ _ _ | exact Kd.V_nil _ _ _ _ _ | exact Kd.Q_nil _ _ _ _ _ | exact Kd.S_nil _ _ _ _ _, bA⟩
    ·rw [if_neg c7] at H
     have c7b0 : decide (8 < (wrap64 (bt t224 18))) = false := decide_eq_false c7
     clear c7
     by_cases c11 : 4 ≤ 12
     ·rw [if_pos c11] at H
      have c11b0 := eq_true c11
      have c11b1 : decide (4 ≤ 12) = true := decide_eq_true c11
      clear c11
      by_cases c12 : 12 ≤ (t224.size : Int)
      ·rw [if_pos c12] at H
       have c12b0 := eq_true c12
       have c12b1 : decide (12 ≤ (t224.size : Int)) = true := decide_eq_true c12
       clear c12
       replace H := Option.bind_eq_some_iff.mp H
       obtain ⟨t226, A130, H⟩ := H
       replace H : (if 12 ≤ 14 then (if 14 ≤ (t224.size : Int) then ((r2_Get.f k (t224.extract 12 14)).bind fun t227 => (if 14 ≤ 18 then (if 18 ≤ (t224.size : Int) then ((r2_Get.f k (t224.extract 14 18)).bind fun t228 => (r6_Take.l0 k a0 t224 (wrap64 (bt t224 18)) 0 t226 (wrap64 (t227)) (wrap64 (t228)) ([] : List (S53)))) else (none)) else (none))) else (none)) else (none)) = some (r1, r2, r3, r4, r5) := H
       have A13 := Ax.mk A130
       clear A130
       by_cases c14 : 12 ≤ 14
       ·rw [if_pos c14] at H
        have c14b0 := eq_true c14
        have c14b1 : decide (12 ≤ 14) = true := decide_eq_true c14
        clear c14
        by_cases c15 : 14 ≤ (t224.size : Int)
        ·rw [if_pos c15] at H
         have c15b0 := eq_true c15
         have c15b1 : decide (14 ≤ (t224.size : Int)) = true := decide_eq_true c15
         clear c15
         replace H := Option.bind_eq_some_iff.mp H
         obtain ⟨t227, A160, H⟩ := H
         replace H : (if 14 ≤ 18 then (if 18 ≤ (t224.size : Int) then ((r2_Get.f k (t224.extract 14 18)).bind fun t228 => (r6_Take.l0 k a0 t224 (wrap64 (bt t224 18)) 0 t226 (wrap64 (t227)) (wrap64 (t228)) ([] : List (S53)))) else (none)) else (none)) = some (r1, r2, r3, r4, r5) := H
         have A16 := Ax.mk A160
         clear A160
         by_cases c17 : 14 ≤ 18
         ·rw [if_pos c17] at H
          have c17b0 := eq_true c17
          have c17b1 : decide (14 ≤ 18) = true := decide_eq_true c17
          clear c17
          by_cases c18 : 18 ≤ (t224.size : Int)
          ·rw [if_pos c18] at H
           have c18b0 := eq_true c18
           have c18b1 : decide (18 ≤ (t224.size : Int)) = true := decide_eq_true c18
           clear c18
           replace H := Option.bind_eq_some_iff.mp H
           obtain ⟨t228, A190, H⟩ := H
           replace H : (r6_Take.l0 k a0 t224 (wrap64 (bt t224 18)) 0 t226 (wrap64 (t227)) (wrap64 (t228)) ([] : List (S53))) = some (r1, r2, r3, r4, r5) := H
           have A19 := Ax.mk A190
           clear A190
           have H' := Ax.mk H
           clear H
           go_enter Tryd.func17, Tryd.ntmps17
           try go_wp2_with (first | ((with_reducible refine gate_dst (N := 2) rfl ?_); refine box_event ?hg (N := 2) ?hd (cs := #[.int .u64 0, .int .i64 0, .int .i64 0, .slice none 0 0]) (t := 31) ?hr ?_; (case hd => rfl); (case hg => rfl); (case hr => first | (go_simp; done) | (go_simp; rfl)); intro gb223 hg w20 hbox hb; have n0_ := Ax.mk (bP bA hb); have n1_ := Ax.mk (hbox); have n2_ := Ax.mk ((ge_new hg : w.heap.size ≤ gb223)); have n3_ := n2_; clear HB; have HB := n0_; have BK223 := n1_; have GW223 := n2_; have GE223 := n3_; clear n0_ n1_ n2_ n3_; clear hb hbox hg) | ((with_reducible refine gate_callee (f := 42) rfl ?_); refine goesL_ (some 17) rfl rfl Tryd.func42 (by kernel_rfl) rfl #[.string a0] rfl (by (try simp only [List.map_toArray, List.map_cons, List.map_nil]); first | done | rfl | (simp only [List.length_drop, List.length_take]; rfl) | (rw [wrap_sum2 (by assumption)]; rfl)) ?_; (with_reducible refine (r3_Take.calls k a0 t224 t225 _ A3.out).mono ?_); rintro e w21 ⟨rfl, hb⟩; refine ⟨_, rfl, ?_⟩; have n0_ := Ax.mk (bB (bT BK223.out) hb); have n1_ := Ax.mk (bP bA hb); clear BK223; clear HB; have BK223 := n0_; have HB := n1_; clear n0_ n1_; (try clear hb); (try clear hb2); (try clear hk); (try clear hi); have p6 : 0 ≤ (18 : Int) := (by omega); have q6 : 18 < t224.size := (by have : (18 : Int) < (t224.size : Int) := of_decide_eq_true (by first | (with_reducible assumption) | assumption); omega); have hx6 : ∀ h : 18 < t224.size, ((t224[18]'h).toNat : Int) = bt t224 18 := bt_at t224 18; clear p6; have qi6 : (18 < (t224.size : Int)) = True := eq_true (of_decide_eq_true (by first | (with_reducible assumption) | assumption)); replace q6 := eq_true q6))
           have n0_ := Ax.mk (blk_drew BK223.out)
           have n1_ := Ax.mk (below_drew1 HB.out)
           clear BK223
           clear HB
           have BK223 := n0_
           have HB := n1_
           clear n0_ n1_
           refine start_ (n := 14) (S := fun w' => True) (ds := []) #[false, false, false, false, false, false, false, false, false, false, false, false, false, false] (by kernel_rfl) rfl rfl trivial (fun hHeld => ?_); refine with_tabW r6_Take.tab9 r6_Take.bits9 (fun HT_ HW_ => ?_)
           generalize w21.drew = w22 at BK223 HB hHeld ⊢
           refine pure_ (i := 0) (N := some 30) (v := ?_) (a' := ?_) #[true, false, false, false, false, false, false, false, false, false, false, false, false, false] rfl rfl (any_of HT_.out (by kernel_rfl)) (fun _ _ _ h => h) (Or.inl ⟨by rfl, ?_⟩) ?_ ?_
           rotate_left
           ·intro w'
            go_simp
            with_reducible rfl
           rotate_left
           ·simp only [Act.put, setIfInBounds_toArray, set_cons_zero, set_cons_succ, i64_w, i32_w]
            rfl
           refine pure_ (i := 1) (N := some 31) (v := ?_) (a' := ?_) #[true, true, false, false, false, false, false, false, false, false, false, false, false, false] rfl rfl (any_of HT_.out (by kernel_rfl)) (fun _ _ _ h => h) (Or.inl ⟨by rfl, ?_⟩) ?_ ?_
           rotate_left
           ·intro w'
            go_simp
            with_reducible rfl
           rotate_left
           ·simp only [Act.put, setIfInBounds_toArray, set_cons_zero, set_cons_succ, i64_w, i32_w]
            rfl
           refine pure_ (i := 3) (N := some 33) (v := ?_) (a' := ?_) #[true, true, false, true, false, false, false, false, false, false, false, false, false, false] rfl rfl (any_of HT_.out (by kernel_rfl)) (fun _ _ _ h => h) (Or.inl ⟨by rfl, ?_⟩) ?_ ?_
           rotate_left
           ·intro w'
            go_simp
            with_reducible rfl
           rotate_left
           ·simp only [Act.put, setIfInBounds_toArray, set_cons_zero, set_cons_succ, i64_w, i32_w]
            rfl
           refine pure_ (i := 4) (N := some 34) (v := ?_) (a' := ?_) #[true, true, false, true, true, false, false, false, false, false, false, false, false, false] rfl rfl (any_of HT_.out (by kernel_rfl)) (fun _ _ _ h => h) (Or.inl ⟨by rfl, ?_⟩) ?_ ?_
           rotate_left
           ·intro w'
            go_simp
            with_reducible rfl
           rotate_left
           ·simp only [Act.put, setIfInBounds_toArray, set_cons_zero, set_cons_succ, i64_w, i32_w]
            rfl
           refine pure_ (i := 7) (N := some 37) (v := ?_) (a' := ?_) #[true, true, false, true, true, false, false, true, false, false, false, false, false, false] rfl rfl (any_of HT_.out (by kernel_rfl)) (fun _ _ _ h => h) (Or.inl ⟨by rfl, ?_⟩) ?_ ?_
           rotate_left
           ·intro w'
            go_simp
            with_reducible rfl
           rotate_left
           ·simp only [Act.put, setIfInBounds_toArray, set_cons_zero, set_cons_succ, i64_w, i32_w]
            rfl
           refine pure_ (i := 8) (N := some 38) (v := ?_) (a' := ?_) #[true, true, false, true, true, false, false, true, true, false, false, false, false, false] rfl rfl (any_of HT_.out (by kernel_rfl)) (fun _ _ _ h => h) (Or.inl ⟨by rfl, ?_⟩) ?_ ?_
           rotate_left
           ·intro w'
            go_simp
            with_reducible rfl
           rotate_left
           ·simp only [Act.put, setIfInBounds_toArray, set_cons_zero, set_cons_succ, i64_w, i32_w]
            rfl
           refine join_ (σ := Nat) 1 #[true, true, true, true, true, true, true, true, true, true, true, true, true, false] (fun s_ => [(32, .int .u64 t226), (35, .int .u64 t227), (39, .int .u64 t228), (7, .pointer (some ⟨s_, 0, none⟩)), (36, .int .i64 (wrap64 (t227))), (40, .int .i64 (wrap64 (t228))), (41, .agg #[.int .u64 t226, .int .i64 (wrap64 (t227)), .int .i64 (wrap64 (t228)), .slice none 0 0])]) (fun s_ w' => (w'.heap[gb223]? = some (.cells #[.int .u64 0, .int .i64 0, .int .i64 0, .slice none 0 0] 31 (0, 0))) ∧ (w'.heap[s_]? = some (.cells #[.int .u64 0, .int .i64 0, .int .i64 0, .slice none 0 0] 31 (0, 0))) ∧ (w.heap.size ≤ s_) ∧ (w.heap.size ≤ s_) ∧ (gb223 ≠ s_) ∧ (s_ ≠ gb223) ∧ (Below w.heap.size w w')) ?_ ?_
           rotate_left
           ·intro hCont
            refine two_ (i := 2) (j := 12) (Ni := some 32) (Nj := some 7) #[true, true, true, true, true, false, false, true, true, false, false, false, false, false] #[true, true, false, true, true, false, false, true, true, false, false, false, true, false] rfl rfl rfl rfl (two_of HT_.out (by kernel_rfl)) (by decide) (by decide) (fun K hK => ?_) (fun K hK => ?_)
            ·skip
             refine goes_ Tryd.func43 (by kernel_rfl) rfl #[.string (t224.extract 4 12)] (by rfl) rfl rfl (by (try simp only [List.map_toArray, List.map_cons, List.map_nil]); first | done | rfl | (simp only [List.length_drop, List.length_take]; rfl) | (rw [wrap_sum2 (by assumption)]; rfl)) ?_
             with_reducible refine (r2_Get.calls k (t224.extract 4 12) t226 _ A13.out).mono ?_
             rintro e w23 ⟨rfl, hb⟩
             refine ⟨_, rfl, ?_⟩
             have n0_ := Ax.mk (bB (bT BK223.out) hb)
             have n1_ := Ax.mk (bP bA hb)
             clear BK223
             clear HB
             have BK223 := n0_
             have HB := n1_
             clear n0_ n1_
             (try clear hb)
             (try clear hb2)
             (try clear hk)
             (try clear hi)
             refine hK.out _ _ trivial (fun hHeld => ?_)
             clear hK K
             refine norm_ (a' := ?_) ?_ ?_
             rotate_left
             ·show Act.put _ (some 32) _ = _
              simp only [Act.put, setIfInBounds_toArray, set_cons_zero, set_cons_succ, i64_w, i32_w]
              rfl
             refine two_ (i := 5) (j := 12) (Ni := some 35) (Nj := some 7) #[true, true, true, true, true, true, false, true, true, false, false, false, false, false] #[true, true, true, true, true, false, false, true, true, false, false, false, true, false] rfl rfl rfl rfl (two_of HT_.out (by kernel_rfl)) (by decide) (by decide) (fun K hK => ?_) (fun K hK => ?_)
             ·skip
              refine goes_ Tryd.func43 (by kernel_rfl) rfl #[.string (t224.extract 12 14)] (by rfl) rfl rfl (by (try simp only [List.map_toArray, List.map_cons, List.map_nil]); first | done | rfl | (simp only [List.length_drop, List.length_take]; rfl) | (rw [wrap_sum2 (by assumption)]; rfl)) ?_
              with_reducible refine (r2_Get.calls k (t224.extract 12 14) t227 _ A16.out).mono ?_
              rintro e w24 ⟨rfl, hb⟩
              refine ⟨_, rfl, ?_⟩
              have n0_ := Ax.mk (bB (bT BK223.out) hb)
              have n1_ := Ax.mk (bP bA hb)
              clear BK223
              clear HB
              have BK223 := n0_
              have HB := n1_
              clear n0_ n1_
              (try clear hb)
              (try clear hb2)
              (try clear hk)
              (try clear hi)
              refine hK.out _ _ trivial (fun hHeld => ?_)
              clear hK K
              refine norm_ (a' := ?_) ?_ ?_
              rotate_left
              ·show Act.put _ (some 35) _ = _
               simp only [Act.put, setIfInBounds_toArray, set_cons_zero, set_cons_succ, i64_w, i32_w]
               rfl
              refine pure_ (i := 6) (N := some 36) (v := ?_) (a' := ?_) #[true, true, true, true, true, true, true, true, true, false, false, false, false, false] rfl rfl (any_of HT_.out (by kernel_rfl)) (fun _ _ _ h => h) (Or.inl ⟨by rfl, ?_⟩) ?_ ?_
              rotate_left
              ·intro w'
               go_simp
               with_reducible rfl
              rotate_left
              ·simp only [Act.put, setIfInBounds_toArray, set_cons_zero, set_cons_succ, i64_w, i32_w]
               rfl
              refine two_ (i := 9) (j := 12) (Ni := some 39) (Nj := some 7) #[true, true, true, true, true, true, true, true, true, true, false, false, false, false] #[true, true, true, true, true, true, true, true, true, false, false, false, true, false] rfl rfl rfl rfl (two_of HT_.out (by kernel_rfl)) (by decide) (by decide) (fun K hK => ?_) (fun K hK => ?_)
              ·skip
               refine goes_ Tryd.func43 (by kernel_rfl) rfl #[.string (t224.extract 14 18)] (by rfl) rfl rfl (by (try simp only [List.map_toArray, List.map_cons, List.map_nil]); first | done | rfl | (simp only [List.length_drop, List.length_take]; rfl) | (rw [wrap_sum2 (by assumption)]; rfl)) ?_
               with_reducible refine (r2_Get.calls k (t224.extract 14 18) t228 _ A19.out).mono ?_
               rintro e w25 ⟨rfl, hb⟩
               refine ⟨_, rfl, ?_⟩
               have n0_ := Ax.mk (bB (bT BK223.out) hb)
               have n1_ := Ax.mk (bP bA hb)
               clear BK223
               clear HB
               have BK223 := n0_
               have HB := n1_
               clear n0_ n1_
               (try clear hb)
               (try clear hb2)
               (try clear hk)
               (try clear hi)
               refine hK.out _ _ trivial (fun hHeld => ?_)
               clear hK K
               refine norm_ (a' := ?_) ?_ ?_
               rotate_left
               ·show Act.put _ (some 39) _ = _
                simp only [Act.put, setIfInBounds_toArray, set_cons_zero, set_cons_succ, i64_w, i32_w]
                rfl
               refine pure_ (i := 10) (N := some 40) (v := ?_) (a' := ?_) #[true, true, true, true, true, true, true, true, true, true, true, false, false, false] rfl rfl (any_of HT_.out (by kernel_rfl)) (fun _ _ _ h => h) (Or.inl ⟨by rfl, ?_⟩) ?_ ?_
               rotate_left
               ·intro w'
                go_simp
                with_reducible rfl
               rotate_left
               ·simp only [Act.put, setIfInBounds_toArray, set_cons_zero, set_cons_succ, i64_w, i32_w]
                rfl
               refine pure_ (i := 11) (N := some 41) (v := ?_) (a' := ?_) #[true, true, true, true, true, true, true, true, true, true, true, true, false, false] rfl rfl (any_of HT_.out (by kernel_rfl)) (fun _ _ _ h => h) (Or.inl ⟨by rfl, ?_⟩) ?_ ?_
               rotate_left
               ·intro w'
                go_simp
                with_reducible rfl
               rotate_left
               ·simp only [Act.put, setIfInBounds_toArray, set_cons_zero, set_cons_succ, i64_w, i32_w]
                rfl
               refine one_ (i := 12) (N := some 7) #[true, true, true, true, true, true, true, true, true, true, true, true, true, false] rfl rfl (one_of HT_.out (by kernel_rfl)) (by decide) (fun K hK => ?_)
               refine box_step ?hg (N := 7) ?hd (cs := #[.int .u64 0, .int .i64 0, .int .i64 0, .slice none 0 0]) (t := 31) ?hr ?_; (case hd => rfl); (case hg => rfl); (case hr => first | (go_simp; done) | (go_simp; rfl))
               intro gb229 hg w26 hbox hb
               have n0_ := Ax.mk (bB (bT BK223.out) hb)
               have n1_ := Ax.mk (bP bA hb)
               have n2_ := Ax.mk (hbox)
               have n3_ := Ax.mk ((ge_new hg : w.heap.size ≤ gb229))
               have n4_ := Ax.mk ((ge_new hg : w.heap.size ≤ gb229))
               have n5_ := Ax.mk ((ne_lt hg BK223.out : gb223 ≠ gb229))
               have n6_ := Ax.mk ((ne_gt hg BK223.out : gb229 ≠ gb223))
               clear BK223
               clear HB
               have BK223 := n0_
               have HB := n1_
               have BK229 := n2_
               have GW229 := n3_
               have GE229 := n4_
               have NB223_229 := n5_
               have NB229_223 := n6_
               clear n0_ n1_ n2_ n3_ n4_ n5_ n6_
               clear hb hbox hg
               refine hK.out _ _ trivial (fun hHeld => ?_)
               clear hK K
               refine norm_ (a' := ?_) ?_ ?_
               rotate_left
               ·show Act.put _ (some 7) _ = _
                simp only [Act.put, setIfInBounds_toArray, set_cons_zero, set_cons_succ, i64_w, i32_w]
                rfl
               exact norm_ (by simp only [putAll, Act.put, List.setIfInBounds_toArray, List.set_cons_zero, List.set_cons_succ]) (hCont (gb229) _ ⟨(bT BK223.out), (bT BK229.out), GW229.out, GE229.out, NB223_229.out, NB229_223.out, bA⟩)
              ·skip
               refine box_step ?hg (N := 7) ?hd (cs := #[.int .u64 0, .int .i64 0, .int .i64 0, .slice none 0 0]) (t := 31) ?hr ?_; (case hd => rfl); (case hg => rfl); (case hr => first | (go_simp; done) | (go_simp; rfl))
               intro gb229 hg w25 hbox hb
               have n0_ := Ax.mk (bB (bT BK223.out) hb)
               have n1_ := Ax.mk (bP bA hb)
               have n2_ := Ax.mk (hbox)
               have n3_ := Ax.mk ((ge_new hg : w.heap.size ≤ gb229))
               have n4_ := Ax.mk ((ge_new hg : w.heap.size ≤ gb229))
               have n5_ := Ax.mk ((ne_lt hg BK223.out : gb223 ≠ gb229))
               have n6_ := Ax.mk ((ne_gt hg BK223.out : gb229 ≠ gb223))
               clear BK223
               clear HB
               have BK223 := n0_
               have HB := n1_
               have BK229 := n2_
               have GW229 := n3_
               have GE229 := n4_
               have NB223_229 := n5_
               have NB229_223 := n6_
               clear n0_ n1_ n2_ n3_ n4_ n5_ n6_
               clear hb hbox hg
               refine hK.out _ _ trivial (fun hHeld => ?_)
               clear hK K
               refine norm_ (a' := ?_) ?_ ?_
               rotate_left
               ·show Act.put _ (some 7) _ = _
                simp only [Act.put, setIfInBounds_toArray, set_cons_zero, set_cons_succ, i64_w, i32_w]
                rfl
               refine one_ (i := 9) (N := some 39) #[true, true, true, true, true, true, true, true, true, true, false, false, true, false] rfl rfl (one_of HT_.out (by kernel_rfl)) (by decide) (fun K hK => ?_)
               refine goes_ Tryd.func43 (by kernel_rfl) rfl #[.string (t224.extract 14 18)] (by rfl) rfl rfl (by (try simp only [List.map_toArray, List.map_cons, List.map_nil]); first | done | rfl | (simp only [List.length_drop, List.length_take]; rfl) | (rw [wrap_sum2 (by assumption)]; rfl)) ?_
               with_reducible refine (r2_Get.calls k (t224.extract 14 18) t228 _ A19.out).mono ?_
               rintro e w26 ⟨rfl, hb⟩
               refine ⟨_, rfl, ?_⟩
               have n0_ := Ax.mk (bB (bT BK223.out) hb)
               have n1_ := Ax.mk (bB (bT BK229.out) hb)
               have n2_ := Ax.mk (bP bA hb)
               clear BK223
               clear BK229
               clear HB
               have BK223 := n0_
               have BK229 := n1_
               have HB := n2_
               clear n0_ n1_ n2_
               (try clear hb)
               (try clear hb2)
               (try clear hk)
               (try clear hi)
               refine hK.out _ _ trivial (fun hHeld => ?_)
               clear hK K
               refine norm_ (a' := ?_) ?_ ?_
               rotate_left
               ·show Act.put _ (some 39) _ = _
                simp only [Act.put, setIfInBounds_toArray, set_cons_zero, set_cons_succ, i64_w, i32_w]
                rfl
               refine pure_ (i := 10) (N := some 40) (v := ?_) (a' := ?_) #[true, true, true, true, true, true, true, true, true, true, true, false, true, false] rfl rfl (any_of HT_.out (by kernel_rfl)) (fun _ _ _ h => h) (Or.inl ⟨by rfl, ?_⟩) ?_ ?_
               rotate_left
               ·intro w'
                go_simp
                with_reducible rfl
               rotate_left
               ·simp only [Act.put, setIfInBounds_toArray, set_cons_zero, set_cons_succ, i64_w, i32_w]
                rfl
               refine pure_ (i := 11) (N := some 41) (v := ?_) (a' := ?_) #[true, true, true, true, true, true, true, true, true, true, true, true, true, false] rfl rfl (any_of HT_.out (by kernel_rfl)) (fun _ _ _ h => h) (Or.inl ⟨by rfl, ?_⟩) ?_ ?_
               rotate_left
               ·intro w'
                go_simp
                with_reducible rfl
               rotate_left
               ·simp only [Act.put, setIfInBounds_toArray, set_cons_zero, set_cons_succ, i64_w, i32_w]
                rfl
               exact norm_ (by simp only [putAll, Act.put, List.setIfInBounds_toArray, List.set_cons_zero, List.set_cons_succ]) (hCont (gb229) _ ⟨(bT BK223.out), (bT BK229.out), GW229.out, GE229.out, NB223_229.out, NB229_223.out, bA⟩)
             ·skip
              refine box_step ?hg (N := 7) ?hd (cs := #[.int .u64 0, .int .i64 0, .int .i64 0, .slice none 0 0]) (t := 31) ?hr ?_; (case hd => rfl); (case hg => rfl); (case hr => first | (go_simp; done) | (go_simp; rfl))
              intro gb229 hg w24 hbox hb
              have n0_ := Ax.mk (bB (bT BK223.out) hb)
              have n1_ := Ax.mk (bP bA hb)
              have n2_ := Ax.mk (hbox)
              have n3_ := Ax.mk ((ge_new hg : w.heap.size ≤ gb229))
              have n4_ := Ax.mk ((ge_new hg : w.heap.size ≤ gb229))
              have n5_ := Ax.mk ((ne_lt hg BK223.out : gb223 ≠ gb229))
              have n6_ := Ax.mk ((ne_gt hg BK223.out : gb229 ≠ gb223))
              clear BK223
              clear HB
              have BK223 := n0_
              have HB := n1_
              have BK229 := n2_
              have GW229 := n3_
              have GE229 := n4_
              have NB223_229 := n5_
              have NB229_223 := n6_
              clear n0_ n1_ n2_ n3_ n4_ n5_ n6_
              clear hb hbox hg
              refine hK.out _ _ trivial (fun hHeld => ?_)
              clear hK K
              refine norm_ (a' := ?_) ?_ ?_
              rotate_left
              ·show Act.put _ (some 7) _ = _
               simp only [Act.put, setIfInBounds_toArray, set_cons_zero, set_cons_succ, i64_w, i32_w]
               rfl
              refine one_ (i := 5) (N := some 35) #[true, true, true, true, true, true, false, true, true, false, false, false, true, false] rfl rfl (one_of HT_.out (by kernel_rfl)) (by decide) (fun K hK => ?_)
              refine goes_ Tryd.func43 (by kernel_rfl) rfl #[.string (t224.extract 12 14)] (by rfl) rfl rfl (by (try simp only [List.map_toArray, List.map_cons, List.map_nil]); first | done | rfl | (simp only [List.length_drop, List.length_take]; rfl) | (rw [wrap_sum2 (by assumption)]; rfl)) ?_
              with_reducible refine (r2_Get.calls k (t224.extract 12 14) t227 _ A16.out).mono ?_
              rintro e w25 ⟨rfl, hb⟩
              refine ⟨_, rfl, ?_⟩
              have n0_ := Ax.mk (bB (bT BK223.out) hb)
              have n1_ := Ax.mk (bB (bT BK229.out) hb)
              have n2_ := Ax.mk (bP bA hb)
              clear BK223
              clear BK229
              clear HB
              have BK223 := n0_
              have BK229 := n1_
              have HB := n2_
              clear n0_ n1_ n2_
              (try clear hb)
              (try clear hb2)
              (try clear hk)
              (try clear hi)
              refine hK.out _ _ trivial (fun hHeld => ?_)
              clear hK K
              refine norm_ (a' := ?_) ?_ ?_
              rotate_left
              ·show Act.put _ (some 35) _ = _
               simp only [Act.put, setIfInBounds_toArray, set_cons_zero, set_cons_succ, i64_w, i32_w]
               rfl
              refine pure_ (i := 6) (N := some 36) (v := ?_) (a' := ?_) #[true, true, true, true, true, true, true, true, true, false, false, false, true, false] rfl rfl (any_of HT_.out (by kernel_rfl)) (fun _ _ _ h => h) (Or.inl ⟨by rfl, ?_⟩) ?_ ?_
              rotate_left
              ·intro w'
               go_simp
               with_reducible rfl
              rotate_left
              ·simp only [Act.put, setIfInBounds_toArray, set_cons_zero, set_cons_succ, i64_w, i32_w]
               rfl
              refine one_ (i := 9) (N := some 39) #[true, true, true, true, true, true, true, true, true, true, false, false, true, false] rfl rfl (one_of HT_.out (by kernel_rfl)) (by decide) (fun K hK => ?_)
              refine goes_ Tryd.func43 (by kernel_rfl) rfl #[.string (t224.extract 14 18)] (by rfl) rfl rfl (by (try simp only [List.map_toArray, List.map_cons, List.map_nil]); first | done | rfl | (simp only [List.length_drop, List.length_take]; rfl) | (rw [wrap_sum2 (by assumption)]; rfl)) ?_
              with_reducible refine (r2_Get.calls k (t224.extract 14 18) t228 _ A19.out).mono ?_
              rintro e w26 ⟨rfl, hb⟩
              refine ⟨_, rfl, ?_⟩
              have n0_ := Ax.mk (bB (bT BK223.out) hb)
              have n1_ := Ax.mk (bB (bT BK229.out) hb)
              have n2_ := Ax.mk (bP bA hb)
              clear BK223
              clear BK229
              clear HB
              have BK223 := n0_
              have BK229 := n1_
              have HB := n2_
              clear n0_ n1_ n2_
              (try clear hb)
              (try clear hb2)
              (try clear hk)
              (try clear hi)
              refine hK.out _ _ trivial (fun hHeld => ?_)
              clear hK K
              refine norm_ (a' := ?_) ?_ ?_
              rotate_left
              ·show Act.put _ (some 39) _ = _
               simp only [Act.put, setIfInBounds_toArray, set_cons_zero, set_cons_succ, i64_w, i32_w]
               rfl
              refine pure_ (i := 10) (N := some 40) (v := ?_) (a' := ?_) #[true, true, true, true, true, true, true, true, true, true, true, false, true, false] rfl rfl (any_of HT_.out (by kernel_rfl)) (fun _ _ _ h => h) (Or.inl ⟨by rfl, ?_⟩) ?_ ?_
              rotate_left
              ·intro w'
               go_simp
               with_reducible rfl
              rotate_left
              ·simp only [Act.put, setIfInBounds_toArray, set_cons_zero, set_cons_succ, i64_w, i32_w]
               rfl
              refine pure_ (i := 11) (N := some 41) (v := ?_) (a' := ?_) #[true, true, true, true, true, true, true, true, true, true, true, true, true, false] rfl rfl (any_of HT_.out (by kernel_rfl)) (fun _ _ _ h => h) (Or.inl ⟨by rfl, ?_⟩) ?_ ?_
              rotate_left
              ·intro w'
               go_simp
               with_reducible rfl
              rotate_left
              ·simp only [Act.put, setIfInBounds_toArray, set_cons_zero, set_cons_succ, i64_w, i32_w]
               rfl
              exact norm_ (by simp only [putAll, Act.put, List.setIfInBounds_toArray, List.set_cons_zero, List.set_cons_succ]) (hCont (gb229) _ ⟨(bT BK223.out), (bT BK229.out), GW229.out, GE229.out, NB223_229.out, NB229_223.out, bA⟩)
            ·skip
             refine box_step ?hg (N := 7) ?hd (cs := #[.int .u64 0, .int .i64 0, .int .i64 0, .slice none 0 0]) (t := 31) ?hr ?_; (case hd => rfl); (case hg => rfl); (case hr => first | (go_simp; done) | (go_simp; rfl))
             intro gb229 hg w23 hbox hb
             have n0_ := Ax.mk (bB (bT BK223.out) hb)
             have n1_ := Ax.mk (bP bA hb)
             have n2_ := Ax.mk (hbox)
             have n3_ := Ax.mk ((ge_new hg : w.heap.size ≤ gb229))
             have n4_ := Ax.mk ((ge_new hg : w.heap.size ≤ gb229))
             have n5_ := Ax.mk ((ne_lt hg BK223.out : gb223 ≠ gb229))
             have n6_ := Ax.mk ((ne_gt hg BK223.out : gb229 ≠ gb223))
             clear BK223
             clear HB
             have BK223 := n0_
             have HB := n1_
             have BK229 := n2_
             have GW229 := n3_
             have GE229 := n4_
             have NB223_229 := n5_
             have NB229_223 := n6_
             clear n0_ n1_ n2_ n3_ n4_ n5_ n6_
             clear hb hbox hg
             refine hK.out _ _ trivial (fun hHeld => ?_)
             clear hK K
             refine norm_ (a' := ?_) ?_ ?_
             rotate_left
             ·show Act.put _ (some 7) _ = _
              simp only [Act.put, setIfInBounds_toArray, set_cons_zero, set_cons_succ, i64_w, i32_w]
              rfl
             refine one_ (i := 2) (N := some 32) #[true, true, true, true, true, false, false, true, true, false, false, false, true, false] rfl rfl (one_of HT_.out (by kernel_rfl)) (by decide) (fun K hK => ?_)
             refine goes_ Tryd.func43 (by kernel_rfl) rfl #[.string (t224.extract 4 12)] (by rfl) rfl rfl (by (try simp only [List.map_toArray, List.map_cons, List.map_nil]); first | done | rfl | (simp only [List.length_drop, List.length_take]; rfl) | (rw [wrap_sum2 (by assumption)]; rfl)) ?_
             with_reducible refine (r2_Get.calls k (t224.extract 4 12) t226 _ A13.out).mono ?_
             rintro e w24 ⟨rfl, hb⟩
             refine ⟨_, rfl, ?_⟩
             have n0_ := Ax.mk (bB (bT BK223.out) hb)
             have n1_ := Ax.mk (bB (bT BK229.out) hb)
             have n2_ := Ax.mk (bP bA hb)
             clear BK223
             clear BK229
             clear HB
             have BK223 := n0_
             have BK229 := n1_
             have HB := n2_
             clear n0_ n1_ n2_
             (try clear hb)
             (try clear hb2)
             (try clear hk)
             (try clear hi)
             refine hK.out _ _ trivial (fun hHeld => ?_)
             clear hK K
             refine norm_ (a' := ?_) ?_ ?_
             rotate_left
             ·show Act.put _ (some 32) _ = _
              simp only [Act.put, setIfInBounds_toArray, set_cons_zero, set_cons_succ, i64_w, i32_w]
              rfl
             refine one_ (i := 5) (N := some 35) #[true, true, true, true, true, true, false, true, true, false, false, false, true, false] rfl rfl (one_of HT_.out (by kernel_rfl)) (by decide) (fun K hK => ?_)
             refine goes_ Tryd.func43 (by kernel_rfl) rfl #[.string (t224.extract 12 14)] (by rfl) rfl rfl (by (try simp only [List.map_toArray, List.map_cons, List.map_nil]); first | done | rfl | (simp only [List.length_drop, List.length_take]; rfl) | (rw [wrap_sum2 (by assumption)]; rfl)) ?_
             with_reducible refine (r2_Get.calls k (t224.extract 12 14) t227 _ A16.out).mono ?_
             rintro e w25 ⟨rfl, hb⟩
             refine ⟨_, rfl, ?_⟩
             have n0_ := Ax.mk (bB (bT BK223.out) hb)
             have n1_ := Ax.mk (bB (bT BK229.out) hb)
             have n2_ := Ax.mk (bP bA hb)
             clear BK223
             clear BK229
             clear HB
             have BK223 := n0_
             have BK229 := n1_
             have HB := n2_
             clear n0_ n1_ n2_
             (try clear hb)
             (try clear hb2)
             (try clear hk)
             (try clear hi)
             refine hK.out _ _ trivial (fun hHeld => ?_)
             clear hK K
             refine norm_ (a' := ?_) ?_ ?_
             rotate_left
             ·show Act.put _ (some 35) _ = _
              simp only [Act.put, setIfInBounds_toArray, set_cons_zero, set_cons_succ, i64_w, i32_w]
              rfl
             refine pure_ (i := 6) (N := some 36) (v := ?_) (a' := ?_) #[true, true, true, true, true, true, true, true, true, false, false, false, true, false] rfl rfl (any_of HT_.out (by kernel_rfl)) (fun _ _ _ h => h) (Or.inl ⟨by rfl, ?_⟩) ?_ ?_
             rotate_left
             ·intro w'
              go_simp
              with_reducible rfl
             rotate_left
             ·simp only [Act.put, setIfInBounds_toArray, set_cons_zero, set_cons_succ, i64_w, i32_w]
              rfl
             refine one_ (i := 9) (N := some 39) #[true, true, true, true, true, true, true, true, true, true, false, false, true, false] rfl rfl (one_of HT_.out (by kernel_rfl)) (by decide) (fun K hK => ?_)
             refine goes_ Tryd.func43 (by kernel_rfl) rfl #[.string (t224.extract 14 18)] (by rfl) rfl rfl (by (try simp only [List.map_toArray, List.map_cons, List.map_nil]); first | done | rfl | (simp only [List.length_drop, List.length_take]; rfl) | (rw [wrap_sum2 (by assumption)]; rfl)) ?_
             with_reducible refine (r2_Get.calls k (t224.extract 14 18) t228 _ A19.out).mono ?_
             rintro e w26 ⟨rfl, hb⟩
             refine ⟨_, rfl, ?_⟩
             have n0_ := Ax.mk (bB (bT BK223.out) hb)
             have n1_ := Ax.mk (bB (bT BK229.out) hb)
             have n2_ := Ax.mk (bP bA hb)
             clear BK223
             clear BK229
             clear HB
             have BK223 := n0_
             have BK229 := n1_
             have HB := n2_
             clear n0_ n1_ n2_
             (try clear hb)
             (try clear hb2)
             (try clear hk)
             (try clear hi)
             refine hK.out _ _ trivial (fun hHeld => ?_)
             clear hK K
             refine norm_ (a' := ?_) ?_ ?_
             rotate_left
             ·show Act.put _ (some 39) _ = _
              simp only [Act.put, setIfInBounds_toArray, set_cons_zero, set_cons_succ, i64_w, i32_w]
              rfl
             refine pure_ (i := 10) (N := some 40) (v := ?_) (a' := ?_) #[true, true, true, true, true, true, true, true, true, true, true, false, true, false] rfl rfl (any_of HT_.out (by kernel_rfl)) (fun _ _ _ h => h) (Or.inl ⟨by rfl, ?_⟩) ?_ ?_
             rotate_left
             ·intro w'
              go_simp
              with_reducible rfl
             rotate_left
             ·simp only [Act.put, setIfInBounds_toArray, set_cons_zero, set_cons_succ, i64_w, i32_w]
              rfl
             refine pure_ (i := 11) (N := some 41) (v := ?_) (a' := ?_) #[true, true, true, true, true, true, true, true, true, true, true, true, true, false] rfl rfl (any_of HT_.out (by kernel_rfl)) (fun _ _ _ h => h) (Or.inl ⟨by rfl, ?_⟩) ?_ ?_
             rotate_left
             ·intro w'
              go_simp
              with_reducible rfl
             rotate_left
             ·simp only [Act.put, setIfInBounds_toArray, set_cons_zero, set_cons_succ, i64_w, i32_w]
              rfl
             exact norm_ (by simp only [putAll, Act.put, List.setIfInBounds_toArray, List.set_cons_zero, List.set_cons_succ]) (hCont (gb229) _ ⟨(bT BK223.out), (bT BK229.out), GW229.out, GE229.out, NB223_229.out, NB229_223.out, bA⟩)
           rintro gb229 w27 ⟨h0_, h1_, h2_, h3_, h4_, h5_, h6_⟩
           have n0_ : Ax (w27.heap[gb223]? = some (.cells #[.int .u64 0, .int .i64 0, .int .i64 0, .slice none 0 0] 31 (0, 0))) := ⟨h0_⟩
           have n1_ : Ax (w27.heap[gb229]? = some (.cells #[.int .u64 0, .int .i64 0, .int .i64 0, .slice none 0 0] 31 (0, 0))) := ⟨h1_⟩
           have n2_ : Ax (w.heap.size ≤ gb229) := ⟨h2_⟩
           have n3_ : Ax (w.heap.size ≤ gb229) := ⟨h3_⟩
           have n4_ : Ax (gb223 ≠ gb229) := ⟨h4_⟩
           have n5_ : Ax (gb229 ≠ gb223) := ⟨h5_⟩
           have n6_ : Ax (Below w.heap.size w w27) := ⟨h6_⟩
           clear BK223
           clear HB
           clear h0_ h1_ h2_ h3_ h4_ h5_ h6_
           have BK223 := n0_
           have BK229 := n1_
           have GW229 := n2_
           have GE229 := n3_
           have NB223_229 := n4_
           have NB229_223 := n5_
           have HB := n6_
           clear n0_ n1_ n2_ n3_ n4_ n5_ n6_
           have hHeld := trivial
           refine norm_ (a' := ?_) ?_ ?_
           rotate_left
           ·simp only [putAll, Act.put, List.setIfInBounds_toArray, List.set_cons_zero, List.set_cons_succ]
            rfl
           refine one_ (i := 13) (N := none) #[true, true, true, true, true, true, true, true, true, true, true, true, true, true] rfl rfl (one_of HT_.out (by kernel_rfl)) (by decide) (fun K hK => ?_)
           have hs28 : w27.cell? ⟨gb229, 0, none⟩ = some (.int .u64 0) := (bC BK229.out 0).trans rfl
           have hfs28 := bF BK229.out 0
           have hns28_0 := NB223_229.out
           have hms28_0 := NB229_223.out
           have hs29 : w27.cell? ⟨gb229, 1, none⟩ = some (.int .i64 0) := (bC BK229.out 1).trans rfl
           have hfs29 := bF BK229.out 1
           have hns29_0 := NB223_229.out
           have hms29_0 := NB229_223.out
           have hs30 : w27.cell? ⟨gb229, 2, none⟩ = some (.int .i64 0) := (bC BK229.out 2).trans rfl
           have hfs30 := bF BK229.out 2
           have hns30_0 := NB223_229.out
           have hms30_0 := NB229_223.out
           have hs31 : w27.cell? ⟨gb229, 3, none⟩ = some (.slice none 0 0) := (bC BK229.out 3).trans rfl
           have hfs31 := bF BK229.out 3
           have hns31_0 := NB223_229.out
           have hms31_0 := NB229_223.out
           refine skip_ (w1 := ?_) (by rfl) rfl ?_ ?_
           rotate_left
           ·go_simp
            rfl
           refine hK.out _ _ trivial (fun hHeld => ?_)
           clear hK K
           refine done_ (done_of HT_.out (by kernel_rfl)) ?_
           try go_wp2
           go_loopg [8] k (fun kq v8 w' => ∃ (x8_1 : Int) (x230003_1 : List (S53)) (u230003 : Value), v8 = .int .i64 x8_1 ∧ Ax (r6_Take.l0 kq a0 t224 (wrap64 (bt t224 18)) x8_1 t226 (wrap64 (t227)) (wrap64 (t228)) x230003_1 = some (r1, r2, r3, r4, r5)) ∧ Ax (kq ≤ k) ∧ Ax (Kd.R k53 53 w' w.heap.size (fun _ => True) u230003 x230003_1) ∧ Ax (w'.heap[gb223]? = some (.cells #[.int .u64 0, .int .i64 0, .int .i64 0, (.slice none 0 0)] 31 (0, 0))) ∧ Ax (w'.heap[gb229]? = some (.cells #[.int .u64 t226, .int .i64 (wrap64 (t227)), .int .i64 (wrap64 (t228)), u230003] 31 (0, 0))) ∧ Ax (Below w.heap.size w w'))
           case atStart => exact ⟨(0), (([] : List (S53))), (.slice none 0 0), (by first | rfl | (simp; done) | (simp [*]; done)), H', ⟨Nat.le_refl _⟩, ⟨by first | exact Kd.R_nil _ _ _ _ _ | exact Kd.N_nil _ _ _ _ _ | exact Kd.V_nil _ _ _ _ _ | exact Kd.Q_nil _ _ _ _ _ | exact Kd.S_nil _ _ _ _ _⟩, ⟨by refine bT ?_; refine bR ?_ NB223_229.out _; refine bT ?_; refine bR ?_ NB223_229.out _; refine bT ?_; refine bR ?_ NB223_229.out _; refine bT ?_; refine bR ?_ NB223_229.out _; refine bT ?_; exact BK223.out⟩, ⟨by refine bT ?_; refine bU (cs := #[.int .u64 t226, .int .i64 (wrap64 (t227)), .int .i64 (wrap64 (t228)), .slice none 0 0]) ?_ 3 _ rfl; refine bT ?_; refine bU (cs := #[.int .u64 t226, .int .i64 (wrap64 (t227)), .int .i64 0, .slice none 0 0]) ?_ 2 _ rfl; refine bT ?_; refine bU (cs := #[.int .u64 t226, .int .i64 0, .int .i64 0, .slice none 0 0]) ?_ 1 _ rfl; refine bT ?_; refine bU (cs := #[.int .u64 0, .int .i64 0, .int .i64 0, .slice none 0 0]) ?_ 0 _ rfl; refine bT ?_; exact BK229.out⟩, ⟨bA⟩⟩
           case round =>
            clear H'
            try clear c1
            try clear p2
            try clear c4
            try clear p6
            try clear q6
            try clear hx6
            try clear qi6
            try clear c7
            try clear c7b0
            try clear c11
            try clear c11b0
            try clear c11b1
            try clear c12
            try clear c12b0
            try clear c12b1
            try clear c14
            try clear c14b0
            try clear c14b1
            try clear c15
            try clear c15b0
            try clear c15b1
            try clear c17
            try clear c17b0
            try clear c17b1
            try clear c18
            try clear c18b0
            try clear c18b1
            try clear hcz10_0
            try clear hcz10_1
            try clear hcz10_2
            try clear hcz10_3
            try clear hfz10_0
            try clear hfz10_1
            try clear hfz10_2
            try clear hfz10_3
            try clear p6
            try clear q6
            obtain ⟨x8_1, x230003_1, u230003, rfl, HA, HK1, HO_230003, BK223, BK229, HB⟩ := hrel
            cases gk with
            | zero => exact absurd HA.out (by simp [r6_Take.l0])
            | succ k1 =>
             have H := HA.out
             clear HA
             simp only [r6_Take.l0] at H
             by_cases c32 : x8_1 < (wrap64 (bt t224 18))
             ·rw [if_pos c32] at H
              have c32b0 : decide (x8_1 < (wrap64 (bt t224 18))) = true := decide_eq_true c32
              clear c32
              obtain ⟨ji33, hji33⟩ : ∃ j_ : Int, (wrap64 (19 + (wrap64 (4 * x8_1)))) = j_ := ⟨_, rfl⟩
              replace H : (if 0 ≤ (ji33) then (if (ji33) ≤ (wrap64 (21 + (wrap64 (4 * x8_1)))) then (if (wrap64 (21 + (wrap64 (4 * x8_1)))) ≤ (t224.size : Int) then ((r2_Get.f k1 (t224.extract ((ji33) : Int).toNat ((wrap64 (21 + (wrap64 (4 * x8_1)))) : Int).toNat)).bind fun t230 => (if 0 ≤ (wrap64 (21 + (wrap64 (4 * x8_1)))) then (if (wrap64 (21 + (wrap64 (4 * x8_1)))) ≤ (wrap64 (23 + (wrap64 (4 * x8_1)))) then (if (wrap64 (23 + (wrap64 (4 * x8_1)))) ≤ (t224.size : Int) then ((r2_Get.f k1 (t224.extract ((wrap64 (21 + (wrap64 (4 * x8_1)))) : Int).toNat ((wrap64 (23 + (wrap64 (4 * x8_1)))) : Int).toNat)).bind fun t231 => (if x230003_1.length < 8796093022208 then (r6_Take.l0 k1 a0 t224 (wrap64 (bt t224 18)) (wrap64 (x8_1 + 1)) t226 (wrap64 (t227)) (wrap64 (t228)) (x230003_1 ++ [(⟨wrap64 (t230), wrap64 (t231)⟩ : S53)])) else (none))) else (none)) else (none)) else (none))) else (none)) else (none)) else (none)) = some (r1, r2, r3, r4, r5) := by first | (rw [hji33] at H; exact H) | (simp only [hji33] at H ⊢; exact H)
              have hji33w : (IntKind.i64.wrap (19 + (wrap64 (4 * x8_1)))) = ji33 := (i64_w _).trans hji33
              by_cases c34 : 0 ≤ (ji33)
              ·rw [if_pos c34] at H
               have c34b0 := eq_true c34
               have c34b1 : decide (0 ≤ (ji33)) = true := decide_eq_true c34
               clear c34
               by_cases c35 : (ji33) ≤ (wrap64 (21 + (wrap64 (4 * x8_1))))
               ·rw [if_pos c35] at H
                have c35b0 := eq_true c35
                have c35b1 : decide ((ji33) ≤ (wrap64 (21 + (wrap64 (4 * x8_1))))) = true := decide_eq_true c35
                by_cases c36 : (wrap64 (21 + (wrap64 (4 * x8_1)))) ≤ (t224.size : Int)
                ·rw [if_pos c36] at H
                 have c36b0 := eq_true c36
                 have c36b1 : decide ((wrap64 (21 + (wrap64 (4 * x8_1)))) ≤ (t224.size : Int)) = true := decide_eq_true c36
                 replace H := Option.bind_eq_some_iff.mp H
                 obtain ⟨t230, A370, H⟩ := H
                 replace H : (if 0 ≤ (wrap64 (21 + (wrap64 (4 * x8_1)))) then (if (wrap64 (21 + (wrap64 (4 * x8_1)))) ≤ (wrap64 (23 + (wrap64 (4 * x8_1)))) then (if (wrap64 (23 + (wrap64 (4 * x8_1)))) ≤ (t224.size : Int) then ((r2_Get.f k1 (t224.extract ((wrap64 (21 + (wrap64 (4 * x8_1)))) : Int).toNat ((wrap64 (23 + (wrap64 (4 * x8_1)))) : Int).toNat)).bind fun t231 => (if x230003_1.length < 8796093022208 then (r6_Take.l0 k1 a0 t224 (wrap64 (bt t224 18)) (wrap64 (x8_1 + 1)) t226 (wrap64 (t227)) (wrap64 (t228)) (x230003_1 ++ [(⟨wrap64 (t230), wrap64 (t231)⟩ : S53)])) else (none))) else (none)) else (none)) else (none)) = some (r1, r2, r3, r4, r5) := H
                 have A37 := Ax.mk A370
                 clear A370
                 obtain ⟨ji38, hji38⟩ : ∃ j_ : Int, (wrap64 (21 + (wrap64 (4 * x8_1)))) = j_ := ⟨_, rfl⟩
                 replace H : (if 0 ≤ (ji38) then (if (ji38) ≤ (wrap64 (23 + (wrap64 (4 * x8_1)))) then (if (wrap64 (23 + (wrap64 (4 * x8_1)))) ≤ (t224.size : Int) then ((r2_Get.f k1 (t224.extract ((ji38) : Int).toNat ((wrap64 (23 + (wrap64 (4 * x8_1)))) : Int).toNat)).bind fun t231 => (if x230003_1.length < 8796093022208 then (r6_Take.l0 k1 a0 t224 (wrap64 (bt t224 18)) (wrap64 (x8_1 + 1)) t226 (wrap64 (t227)) (wrap64 (t228)) (x230003_1 ++ [(⟨wrap64 (t230), wrap64 (t231)⟩ : S53)])) else (none))) else (none)) else (none)) else (none)) = some (r1, r2, r3, r4, r5) := by first | (rw [hji38] at H; exact H) | (simp only [hji38] at H ⊢; exact H)
                 (try rw [hji38] at c35b0)
                 (try rw [hji38] at c35b1)
                 (try rw [hji38] at c35)
                 (try rw [hji38] at c36b0)
                 (try rw [hji38] at c36b1)
                 (try rw [hji38] at c36)
                 (try rw [hji38] at A37)
                 have hji38w : (IntKind.i64.wrap (21 + (wrap64 (4 * x8_1)))) = ji38 := (i64_w _).trans hji38
                 by_cases c39 : 0 ≤ (ji38)
                 ·rw [if_pos c39] at H
                  have c39b0 := eq_true c39
                  have c39b1 : decide (0 ≤ (ji38)) = true := decide_eq_true c39
                  clear c39
                  by_cases c40 : (ji38) ≤ (wrap64 (23 + (wrap64 (4 * x8_1))))
                  ·rw [if_pos c40] at H
                   have c40b0 := eq_true c40
                   have c40b1 : decide ((ji38) ≤ (wrap64 (23 + (wrap64 (4 * x8_1))))) = true := decide_eq_true c40
                   by_cases c41 : (wrap64 (23 + (wrap64 (4 * x8_1)))) ≤ (t224.size : Int)
                   ·rw [if_pos c41] at H
                    have c41b0 := eq_true c41
                    have c41b1 : decide ((wrap64 (23 + (wrap64 (4 * x8_1)))) ≤ (t224.size : Int)) = true := decide_eq_true c41
                    replace H := Option.bind_eq_some_iff.mp H
                    obtain ⟨t231, A420, H⟩ := H
                    replace H : (if x230003_1.length < 8796093022208 then (r6_Take.l0 k1 a0 t224 (wrap64 (bt t224 18)) (wrap64 (x8_1 + 1)) t226 (wrap64 (t227)) (wrap64 (t228)) (x230003_1 ++ [(⟨wrap64 (t230), wrap64 (t231)⟩ : S53)])) else (none)) = some (r1, r2, r3, r4, r5) := H
                    have A42 := Ax.mk A420
                    clear A420
                    by_cases c43 : x230003_1.length < 8796093022208
                    ·rw [if_pos c43] at H
                     have LMc43 := Ax.mk c43
                     clear c43
                     obtain ⟨y232, hy232⟩ : ∃ y_ : List (S53), y_ = (x230003_1 ++ [(⟨wrap64 (t230), wrap64 (t231)⟩ : S53)]) := ⟨_, rfl⟩
                     replace H : (r6_Take.l0 k1 a0 t224 (wrap64 (bt t224 18)) (wrap64 (x8_1 + 1)) t226 (wrap64 (t227)) (wrap64 (t228)) y232) = some (r1, r2, r3, r4, r5) := by first | (rw [hy232]; with_reducible exact H) | (have H2_ := (Option.bind_some _ _).symm.trans H; rw [hy232]; with_reducible exact H2_) | (have H2_ := (Option.bind_some _ _).symm.trans H; with_reducible exact H2_) | with_reducible exact H | (rw [hy232]; exact H) | exact H
                     have Ny232 := Ax.mk hy232
                     clear hy232
                     have H' := Ax.mk H
                     clear H
                     try go_wp2
                     have n0_ := Ax.mk (Kd.R_drew HO_230003.out)
                     have n1_ := Ax.mk (blk_drew BK223.out)
                     have n2_ := Ax.mk (blk_drew BK229.out)
                     have n3_ := Ax.mk (below_drew1 HB.out)
                     clear HO_230003
                     clear BK223
                     clear BK229
                     clear HB
                     have HO_230003 := n0_
                     have BK223 := n1_
                     have BK229 := n2_
                     have HB := n3_
                     clear n0_ n1_ n2_ n3_
                     refine start_ (n := 27) (S := fun w' => w'.cell? ⟨gb229, 0, none⟩ = some (.int .u64 t226) ∧ w'.cell? ⟨gb229, 1, none⟩ = some (.int .i64 (wrap64 (t227))) ∧ w'.cell? ⟨gb229, 2, none⟩ = some (.int .i64 (wrap64 (t228))) ∧ w'.cell? ⟨gb229, 3, none⟩ = some (u230003)) (ds := [26]) #[false, false, false, false, false, false, false, false, false, false, false, false, false, false, false, false, false, false, false, false, false, false, false, false, false, false, false] (by kernel_rfl) rfl rfl ⟨(bC BK229.out 0).trans rfl, (bC BK229.out 1).trans rfl, (bC BK229.out 2).trans rfl, (bC BK229.out 3).trans rfl⟩ (fun hHeld => ?_); refine with_tabW r6_Take.tab13 r6_Take.bits13 (fun HT_ HW_ => ?_)
                     generalize wr.drew = w44 at HO_230003 BK223 BK229 HB hHeld ⊢
                     refine pure_ (i := 0) (N := some 47) (v := ?_) (a' := ?_) #[true, false, false, false, false, false, false, false, false, false, false, false, false, false, false, false, false, false, false, false, false, false, false, false, false, false, false] rfl rfl (any_of HT_.out (by kernel_rfl)) (fun _ _ _ h => h) (Or.inl ⟨by rfl, ?_⟩) ?_ ?_
                     rotate_left
                     ·intro w'
                      go_simp
                      with_reducible rfl
                     rotate_left
                     ·simp only [Act.put, setIfInBounds_toArray, set_cons_zero, set_cons_succ, i64_w, i32_w]
                      rfl
                     refine pure_ (i := 2) (N := some 49) (v := ?_) (a' := ?_) #[true, false, true, false, false, false, false, false, false, false, false, false, false, false, false, false, false, false, false, false, false, false, false, false, false, false, false] rfl rfl (any_of HT_.out (by kernel_rfl)) (fun _ _ _ h => h) (Or.inl ⟨by rfl, ?_⟩) ?_ ?_
                     rotate_left
                     ·intro w'
                      go_simp
                      with_reducible rfl
                     rotate_left
                     ·simp only [Act.put, setIfInBounds_toArray, set_cons_zero, set_cons_succ, i64_w, i32_w]
                      rfl
                     refine pure_ (i := 3) (N := some 50) (v := ?_) (a' := ?_) #[true, false, true, true, false, false, false, false, false, false, false, false, false, false, false, false, false, false, false, false, false, false, false, false, false, false, false] rfl rfl (any_of HT_.out (by kernel_rfl)) (fun _ _ _ h => h) (Or.inl ⟨by rfl, ?_⟩) ?_ ?_
                     rotate_left
                     ·intro w'
                      go_simp
                      with_reducible rfl
                     rotate_left
                     ·simp only [Act.put, setIfInBounds_toArray, set_cons_zero, set_cons_succ, i64_w, i32_w]
                      rfl
                     refine pure_ (i := 4) (N := some 51) (v := ?_) (a' := ?_) #[true, false, true, true, true, false, false, false, false, false, false, false, false, false, false, false, false, false, false, false, false, false, false, false, false, false, false] rfl rfl (any_of HT_.out (by kernel_rfl)) (fun _ _ _ h => h) (Or.inl ⟨by rfl, ?_⟩) ?_ ?_
                     rotate_left
                     ·intro w'
                      go_simp
                      with_reducible rfl
                     rotate_left
                     ·simp only [Act.put, setIfInBounds_toArray, set_cons_zero, set_cons_succ, i64_w, i32_w]
                      rfl
                     refine pure_ (i := 5) (N := some 52) (v := ?_) (a' := ?_) #[true, false, true, true, true, true, false, false, false, false, false, false, false, false, false, false, false, false, false, false, false, false, false, false, false, false, false] rfl rfl (any_of HT_.out (by kernel_rfl)) (fun _ _ _ h => h) (Or.inl ⟨by rfl, ?_⟩) ?_ ?_
                     rotate_left
                     ·intro w'
                      go_simp
                      with_reducible rfl
                     rotate_left
                     ·simp only [Act.put, setIfInBounds_toArray, set_cons_zero, set_cons_succ, i64_w, i32_w]
                      rfl
                     refine pure_ (i := 6) (N := some 53) (v := ?_) (a' := ?_) #[true, false, true, true, true, true, true, false, false, false, false, false, false, false, false, false, false, false, false, false, false, false, false, false, false, false, false] rfl rfl (any_of HT_.out (by kernel_rfl)) (fun _ _ _ h => h) (Or.inl ⟨by rfl, ?_⟩) ?_ ?_
                     rotate_left
                     ·intro w'
                      go_simp
                      with_reducible rfl
                     rotate_left
                     ·simp only [Act.put, setIfInBounds_toArray, set_cons_zero, set_cons_succ, i64_w, i32_w]
                      rfl
                     refine pure_ (i := 7) (N := some 54) (v := ?_) (a' := ?_) #[true, false, true, true, true, true, true, true, false, false, false, false, false, false, false, false, false, false, false, false, false, false, false, false, false, false, false] rfl rfl (any_of HT_.out (by kernel_rfl)) (fun _ _ _ h => h) (Or.inl ⟨by rfl, ?_⟩) ?_ ?_
                     rotate_left
                     ·intro w'
                      go_simp
                      with_reducible rfl
                     rotate_left
                     ·simp only [Act.put, setIfInBounds_toArray, set_cons_zero, set_cons_succ, i64_w, i32_w]
                      rfl
                     refine pure_ (i := 8) (N := some 55) (v := ?_) (a' := ?_) #[true, false, true, true, true, true, true, true, true, false, false, false, false, false, false, false, false, false, false, false, false, false, false, false, false, false, false] rfl rfl (any_of HT_.out (by kernel_rfl)) (fun _ _ _ h => h) (Or.inl ⟨by rfl, ?_⟩) ?_ ?_
                     rotate_left
                     ·intro w'
                      go_simp
                      with_reducible rfl
                     rotate_left
                     ·simp only [Act.put, setIfInBounds_toArray, set_cons_zero, set_cons_succ, i64_w, i32_w]
                      rfl
                     refine pure_ (i := 9) (N := some 56) (v := ?_) (a' := ?_) #[true, false, true, true, true, true, true, true, true, true, false, false, false, false, false, false, false, false, false, false, false, false, false, false, false, false, false] rfl rfl (any_of HT_.out (by kernel_rfl)) (fun _ _ _ h => h) (Or.inl ⟨by rfl, ?_⟩) ?_ ?_
                     rotate_left
                     ·intro w'
                      go_simp
                      with_reducible rfl
                     rotate_left
                     ·simp only [Act.put, setIfInBounds_toArray, set_cons_zero, set_cons_succ, i64_w, i32_w]
                      rfl
                     refine pure_ (i := 12) (N := some 59) (v := ?_) (a' := ?_) #[true, false, true, true, true, true, true, true, true, true, false, false, true, false, false, false, false, false, false, false, false, false, false, false, false, false, false] rfl rfl (any_of HT_.out (by kernel_rfl)) (fun _ _ _ h => h) (Or.inl ⟨by rfl, ?_⟩) ?_ ?_
                     rotate_left
                     ·intro w'
                      go_simp
                      with_reducible rfl
                     rotate_left
                     ·simp only [Act.put, setIfInBounds_toArray, set_cons_zero, set_cons_succ, i64_w, i32_w]
                      rfl
                     refine pure_ (i := 13) (N := some 60) (v := ?_) (a' := ?_) #[true, false, true, true, true, true, true, true, true, true, false, false, true, true, false, false, false, false, false, false, false, false, false, false, false, false, false] rfl rfl (any_of HT_.out (by kernel_rfl)) (fun _ _ _ h => h) (Or.inl ⟨by rfl, ?_⟩) ?_ ?_
                     rotate_left
                     ·intro w'
                      go_simp
                      with_reducible rfl
                     rotate_left
                     ·simp only [Act.put, setIfInBounds_toArray, set_cons_zero, set_cons_succ, i64_w, i32_w]
                      rfl
                     refine pure_ (i := 14) (N := some 61) (v := ?_) (a' := ?_) #[true, false, true, true, true, true, true, true, true, true, false, false, true, true, true, false, false, false, false, false, false, false, false, false, false, false, false] rfl rfl (any_of HT_.out (by kernel_rfl)) (fun _ _ _ h => h) (Or.inl ⟨by rfl, ?_⟩) ?_ ?_
                     rotate_left
                     ·intro w'
                      go_simp
                      with_reducible rfl
                     rotate_left
                     ·simp only [Act.put, setIfInBounds_toArray, set_cons_zero, set_cons_succ, i64_w, i32_w]
                      rfl
                     refine pure_ (i := 15) (N := some 62) (v := ?_) (a' := ?_) #[true, false, true, true, true, true, true, true, true, true, false, false, true, true, true, true, false, false, false, false, false, false, false, false, false, false, false] rfl rfl (any_of HT_.out (by kernel_rfl)) (fun _ _ _ h => h) (Or.inl ⟨by rfl, ?_⟩) ?_ ?_
                     rotate_left
                     ·intro w'
                      go_simp
                      with_reducible rfl
                     rotate_left
                     ·simp only [Act.put, setIfInBounds_toArray, set_cons_zero, set_cons_succ, i64_w, i32_w]
                      rfl
                     refine pure_ (i := 16) (N := some 63) (v := ?_) (a' := ?_) #[true, false, true, true, true, true, true, true, true, true, false, false, true, true, true, true, true, false, false, false, false, false, false, false, false, false, false] rfl rfl (any_of HT_.out (by kernel_rfl)) (fun _ _ _ h => h) (Or.inl ⟨by rfl, ?_⟩) ?_ ?_
                     rotate_left
                     ·intro w'
                      go_simp
                      with_reducible rfl
                     rotate_left
                     ·simp only [Act.put, setIfInBounds_toArray, set_cons_zero, set_cons_succ, i64_w, i32_w]
                      rfl
                     refine pure_ (i := 17) (N := some 64) (v := ?_) (a' := ?_) #[true, false, true, true, true, true, true, true, true, true, false, false, true, true, true, true, true, true, false, false, false, false, false, false, false, false, false] rfl rfl (any_of HT_.out (by kernel_rfl)) (fun _ _ _ h => h) (Or.inl ⟨by rfl, ?_⟩) ?_ ?_
                     rotate_left
                     ·intro w'
                      go_simp
                      with_reducible rfl
                     rotate_left
                     ·simp only [Act.put, setIfInBounds_toArray, set_cons_zero, set_cons_succ, i64_w, i32_w]
                      rfl
                     refine pure_ (i := 18) (N := some 65) (v := ?_) (a' := ?_) #[true, false, true, true, true, true, true, true, true, true, false, false, true, true, true, true, true, true, true, false, false, false, false, false, false, false, false] rfl rfl (any_of HT_.out (by kernel_rfl)) (fun _ _ _ h => h) (Or.inl ⟨by rfl, ?_⟩) ?_ ?_
                     rotate_left
                     ·intro w'
                      go_simp
                      with_reducible rfl
                     rotate_left
                     ·simp only [Act.put, setIfInBounds_toArray, set_cons_zero, set_cons_succ, i64_w, i32_w]
                      rfl
                     refine pure_ (i := 19) (N := some 66) (v := ?_) (a' := ?_) #[true, false, true, true, true, true, true, true, true, true, false, false, true, true, true, true, true, true, true, true, false, false, false, false, false, false, false] rfl rfl (any_of HT_.out (by kernel_rfl)) (fun _ _ _ h => h) (Or.inl ⟨by rfl, ?_⟩) ?_ ?_
                     rotate_left
                     ·intro w'
                      go_simp
                      with_reducible rfl
                     rotate_left
                     ·simp only [Act.put, setIfInBounds_toArray, set_cons_zero, set_cons_succ, i64_w, i32_w]
                      rfl
                     refine take_ (i := 1) (N := some 48) (v := ?_) (a' := ?_) #[true, true, true, true, true, true, true, true, true, true, false, false, true, true, true, true, true, true, true, true, false, false, false, false, false, false, false] rfl rfl (take_ofW HT_.out HW_.out (by kernel_rfl)) (fun _ _ _ h => h) (Or.inl ⟨by rfl, ?_⟩) hHeld ?_ ?_
                     rotate_left
                     ·rintro w' ⟨s0, s1, s2, s3⟩
                      go_simp
                      with_reducible rfl
                     rotate_left
                     ·simp only [Act.put, setIfInBounds_toArray, set_cons_zero, set_cons_succ, i64_w, i32_w]
                      rfl
                     refine one_ (i := 10) (N := some 57) #[true, true, true, true, true, true, true, true, true, true, true, false, true, true, true, true, true, true, true, true, false, false, false, false, false, false, false] rfl rfl (one_of HT_.out (by kernel_rfl)) (by decide) (fun K hK => ?_)
                     refine goes_ Tryd.func43 (by kernel_rfl) rfl #[.string (t224.extract ((ji33) : Int).toNat ((ji38) : Int).toNat)] (by rfl) rfl rfl (by (try simp only [List.map_toArray, List.map_cons, List.map_nil]); first | done | (simp only [hji33, hji38]; rfl) | rfl | (simp only [List.length_drop, List.length_take]; rfl) | (rw [wrap_sum2 (by assumption)]; rfl)) ?_
                     with_reducible refine (r2_Get.calls k1 (t224.extract ((ji33) : Int).toNat ((ji38) : Int).toNat) t230 _ A37.out).mono ?_
                     rintro e w45 ⟨rfl, hb⟩
                     refine ⟨_, rfl, ?_⟩
                     have n0_ := Ax.mk (Kd.R_below (by exact Kd.R_to HO_230003.out) hb)
                     have n1_ := Ax.mk (bB (bT BK223.out) hb)
                     have n2_ := Ax.mk (bB (bT BK229.out) hb)
                     have n3_ := Ax.mk (bP bA hb)
                     clear HO_230003
                     clear BK223
                     clear BK229
                     clear HB
                     have HO_230003 := n0_
                     have BK223 := n1_
                     have BK229 := n2_
                     have HB := n3_
                     clear n0_ n1_ n2_ n3_
                     (try clear hb)
                     (try clear hb2)
                     (try clear hk)
                     (try clear hi)
                     refine hK.out _ _ ⟨(bC BK229.out 0).trans rfl, (bC BK229.out 1).trans rfl, (bC BK229.out 2).trans rfl, (bC BK229.out 3).trans rfl⟩ (fun hHeld => ?_)
                     clear hK K
                     refine norm_ (a' := ?_) ?_ ?_
                     rotate_left
                     ·show Act.put _ (some 57) _ = _
                      simp only [Act.put, setIfInBounds_toArray, set_cons_zero, set_cons_succ, i64_w, i32_w]
                      rfl
                     refine pure_ (i := 11) (N := some 58) (v := ?_) (a' := ?_) #[true, true, true, true, true, true, true, true, true, true, true, true, true, true, true, true, true, true, true, true, false, false, false, false, false, false, false] rfl rfl (any_of HT_.out (by kernel_rfl)) (fun _ _ _ h => h) (Or.inl ⟨by rfl, ?_⟩) ?_ ?_
                     rotate_left
                     ·intro w'
                      go_simp
                      with_reducible rfl
                     rotate_left
                     ·simp only [Act.put, setIfInBounds_toArray, set_cons_zero, set_cons_succ, i64_w, i32_w]
                      rfl
                     refine one_ (i := 20) (N := some 67) #[true, true, true, true, true, true, true, true, true, true, true, true, true, true, true, true, true, true, true, true, true, false, false, false, false, false, false] rfl rfl (one_of HT_.out (by kernel_rfl)) (by decide) (fun K hK => ?_)
                     refine goes_ Tryd.func43 (by kernel_rfl) rfl #[.string (t224.extract ((ji38) : Int).toNat ((wrap64 (23 + (wrap64 (4 * x8_1)))) : Int).toNat)] (by rfl) rfl rfl (by (try simp only [List.map_toArray, List.map_cons, List.map_nil]); first | done | (simp only [hji38]; rfl) | rfl | (simp only [List.length_drop, List.length_take]; rfl) | (rw [wrap_sum2 (by assumption)]; rfl)) ?_
                     with_reducible refine (r2_Get.calls k1 (t224.extract ((ji38) : Int).toNat ((wrap64 (23 + (wrap64 (4 * x8_1)))) : Int).toNat) t231 _ A42.out).mono ?_
                     rintro e w46 ⟨rfl, hb⟩
                     refine ⟨_, rfl, ?_⟩
                     have n0_ := Ax.mk (Kd.R_below (by exact Kd.R_to HO_230003.out) hb)
                     have n1_ := Ax.mk (bB (bT BK223.out) hb)
                     have n2_ := Ax.mk (bB (bT BK229.out) hb)
                     have n3_ := Ax.mk (bP bA hb)
                     clear HO_230003
                     clear BK223
                     clear BK229
                     clear HB
                     have HO_230003 := n0_
                     have BK223 := n1_
                     have BK229 := n2_
                     have HB := n3_
                     clear n0_ n1_ n2_ n3_
                     (try clear hb)
                     (try clear hb2)
                     (try clear hk)
                     (try clear hi)
                     refine hK.out _ _ ⟨(bC BK229.out 0).trans rfl, (bC BK229.out 1).trans rfl, (bC BK229.out 2).trans rfl, (bC BK229.out 3).trans rfl⟩ (fun hHeld => ?_)
                     clear hK K
                     refine norm_ (a' := ?_) ?_ ?_
                     rotate_left
                     ·show Act.put _ (some 67) _ = _
                      simp only [Act.put, setIfInBounds_toArray, set_cons_zero, set_cons_succ, i64_w, i32_w]
                      rfl
                     refine pure_ (i := 21) (N := some 68) (v := ?_) (a' := ?_) #[true, true, true, true, true, true, true, true, true, true, true, true, true, true, true, true, true, true, true, true, true, true, false, false, false, false, false] rfl rfl (any_of HT_.out (by kernel_rfl)) (fun _ _ _ h => h) (Or.inl ⟨by rfl, ?_⟩) ?_ ?_
                     rotate_left
                     ·intro w'
                      go_simp
                      with_reducible rfl
                     rotate_left
                     ·simp only [Act.put, setIfInBounds_toArray, set_cons_zero, set_cons_succ, i64_w, i32_w]
                      rfl
                     refine pure_ (i := 22) (N := some 69) (v := ?_) (a' := ?_) #[true, true, true, true, true, true, true, true, true, true, true, true, true, true, true, true, true, true, true, true, true, true, true, false, false, false, false] rfl rfl (any_of HT_.out (by kernel_rfl)) (fun _ _ _ h => h) (Or.inl ⟨by rfl, ?_⟩) ?_ ?_
                     rotate_left
                     ·intro w'
                      go_simp
                      with_reducible rfl
                     rotate_left
                     ·simp only [Act.put, setIfInBounds_toArray, set_cons_zero, set_cons_succ, i64_w, i32_w]
                      rfl
                     refine one_ (i := 23) (N := some 70) #[true, true, true, true, true, true, true, true, true, true, true, true, true, true, true, true, true, true, true, true, true, true, true, true, false, false, false] rfl rfl (one_of HT_.out (by kernel_rfl)) (by decide) (fun K hK => ?_)
                     refine value_ (w1 := ?_) (v := ?_) (by rfl) rfl ?_ ?_
                     rotate_left 2
                     ·go_simp
                      constructor
                      ·rfl
                      ·rfl
                     refine hK.out _ _ ⟨(bC (blk_alloc BK229.out _) 0).trans rfl, (bC (blk_alloc BK229.out _) 1).trans rfl, (bC (blk_alloc BK229.out _) 2).trans rfl, (bC (blk_alloc BK229.out _) 3).trans rfl⟩ (fun hHeld => ?_)
                     clear hK K
                     refine norm_ (a' := ?_) ?_ ?_
                     rotate_left
                     ·show Act.put _ (some 70) _ = _
                      simp only [Act.put, setIfInBounds_toArray, set_cons_zero, set_cons_succ, i64_w, i32_w]
                      rfl
                     refine one_ (i := 24) (N := some 71) #[true, true, true, true, true, true, true, true, true, true, true, true, true, true, true, true, true, true, true, true, true, true, true, true, true, false, false] rfl rfl (one_of HT_.out (by kernel_rfl)) (by decide) (fun K hK => ?_)
                     refine Kd.R_append_step k53 (w0 := w) w.heap.size (by rfl) (.tmp 48) (.tmp 70) 23 53 (.agg #[(.int .i64 0), (.int .i64 0)]) 16 rfl Tryd.underlying23 info53 rfl (by decide) (by omega) u230003 x230003_1 (⟨wrap64 (t230), wrap64 (t231)⟩ : S53) [.int .i64 (wrap64 (t230)), .int .i64 (wrap64 (t231))] (fun _ => True) (fun _ => False) rfl rfl ?aP (fun _ hk => hk.elim) ?aF ?aO ?aB ?aS ?aL ?_
                     (case aP => exact k53_mkM _ _ _ (⟨wrap64 (t230), wrap64 (t231)⟩ : S53))
                     (case aB => exact bA)
                     (case aF => exact (fun _ _ => trivial))
                     (case aO => exact (by exact Kd.R_to HO_230003.out))
                     (case aS => exact (bS bA))
                     (case aL => have := LMc43.out; omega)
                     intro v233 w47 ho hb hg hat
                     rw [← Ny232.out] at ho
                     have n0_ := Ax.mk (blk_grown (g := gb223) (o := .cells #[.int .u64 0, .int .i64 0, .int .i64 0, .slice none 0 0] 31 (0, 0)) (bT BK223.out) hg (Kd.R_ne HO_230003.out BK223.out (by decide)))
                     have n1_ := Ax.mk (blk_grown (g := gb229) (o := .cells #[.int .u64 t226, .int .i64 (wrap64 (t227)), .int .i64 (wrap64 (t228)), u230003] 31 (0, 0)) (bT BK229.out) hg (Kd.R_ne HO_230003.out BK229.out (by decide)))
                     have n2_ := Ax.mk (hb)
                     have n3_ := Ax.mk (ho)
                     clear BK223
                     clear BK229
                     clear HB
                     clear HO_230003
                     have BK223 := n0_
                     have BK229 := n1_
                     have HB := n2_
                     have HO234 := n3_
                     clear n0_ n1_ n2_ n3_
                     clear ho hb hg hat
                     obtain ⟨Ao48, co48, eo48⟩ := Kd.R_slice HO234.out
                     (first | subst eo48 | (injection eo48 with f1_ f2_ f3_; have f4_ := f1_.symm; have f5_ := f3_.symm; clear f1_ f2_ f3_; subst f4_; subst f5_))
                     refine hK.out _ _ ⟨(bC BK229.out 0).trans rfl, (bC BK229.out 1).trans rfl, (bC BK229.out 2).trans rfl, (bC BK229.out 3).trans rfl⟩ (fun hHeld => ?_)
                     clear hK K
                     refine norm_ (a' := ?_) ?_ ?_
                     rotate_left
                     ·show Act.put _ (some 71) _ = _
                      simp only [Act.put, setIfInBounds_toArray, set_cons_zero, set_cons_succ, i64_w, i32_w]
                      rfl
                     refine pure_ (i := 25) (N := some 72) (v := ?_) (a' := ?_) #[true, true, true, true, true, true, true, true, true, true, true, true, true, true, true, true, true, true, true, true, true, true, true, true, true, true, false] rfl rfl (any_of HT_.out (by kernel_rfl)) (fun _ _ _ h => h) (Or.inl ⟨by rfl, ?_⟩) ?_ ?_
                     rotate_left
                     ·intro w'
                      go_simp
                      with_reducible rfl
                     rotate_left
                     ·simp only [Act.put, setIfInBounds_toArray, set_cons_zero, set_cons_succ, i64_w, i32_w]
                      rfl
                     refine last_ (i := 26) (N := none) #[true, true, true, true, true, true, true, true, true, true, true, true, true, true, true, true, true, true, true, true, true, true, true, true, true, true, true] rfl rfl (one_of HT_.out (by kernel_rfl)) (by decide) (fun K hK => ?_)
                     have hs49 : w47.cell? ⟨gb229, 3, none⟩ = some (u230003) := (bC BK229.out 3).trans rfl
                     have hfs49 := bF BK229.out 3
                     have hns49_0 := NB223_229.out
                     have hms49_0 := NB229_223.out
                     refine skip_ (w1 := ?_) (by rfl) rfl ?_ ?_
                     rotate_left
                     ·go_simp
                      rfl
                     refine hK.out _ _ ?_
                     clear hK K
                     refine done_ (done_of HT_.out (by kernel_rfl)) ?_
                     try go_wp2
                     go_roundg k1
                     case measure => have := HK1.out; omega
                     case rel => exact ⟨(wrap64 (x8_1 + 1)), (y232), (.slice Ao48 y232.length co48), (by first | rfl | (simp; done) | (simp [*]; done)), H', ⟨by have := HK1.out; omega⟩, ⟨by apply Kd.R_to; exact Kd.R_mono (Kd.R_far (p := ⟨gb229, 3, none⟩) (Kd.R_types HO234.out BK229.out (by decide)) (fun _ hk => hk.2) (.slice Ao48 y232.length co48)) (fun _ hk => trivial)⟩, ⟨by refine bT ?_; refine bR ?_ NB223_229.out _; refine bT ?_; exact BK223.out⟩, ⟨by refine bT ?_; refine bU (cs := #[.int .u64 t226, .int .i64 (wrap64 (t227)), .int .i64 (wrap64 (t228)), u230003]) ?_ 3 _ rfl; refine bT ?_; exact BK229.out⟩, ⟨bA⟩⟩
                    ·rw [if_neg c43] at H
                     exact absurd H (by simp)
                   ·rw [if_neg c41] at H
                    exact absurd H (by simp)
                  ·rw [if_neg c40] at H
                   exact absurd H (by simp)
                 ·rw [if_neg c39] at H
                  exact absurd H (by simp)
                ·rw [if_neg c36] at H
                 exact absurd H (by simp)
               ·rw [if_neg c35] at H
                exact absurd H (by simp)
              ·rw [if_neg c34] at H
               exact absurd H (by simp)
             ·rw [if_neg c32] at H
              have c32b0 : decide (x8_1 < (wrap64 (bt t224 18))) = false := decide_eq_false c32
              clear c32
              replace H := Option.bind_eq_some_iff.mp H
              obtain ⟨⟨t235, t236⟩, A500, H⟩ := H
              replace H : (if t236 = 0 then (if t235.toList = a0.toList then (some (t226, (wrap64 (t227)), (wrap64 (t228)), x230003_1, 0)) else (some (0, 0, 0, ([] : List (S53)), 2))) else (some (0, 0, 0, ([] : List (S53)), 2))) = some (r1, r2, r3, r4, r5) := H
              have A50 := Ax.mk A500
              clear A500
              by_cases c51 : t236 = 0
              ·rw [if_pos c51] at H
               have c51b0 : (t236 == 0) = true := beq_iff_eq.mpr c51
               have c51b1 : (t236 != 0) = false := bne_eq_false_iff_eq.mpr c51
               clear c51
               by_cases c52 : t235.toList = a0.toList
               ·rw [if_pos c52] at H
                have c52b0 : (t235.toList == a0.toList) = true := beq_iff_eq.mpr c52
                have c52b1 : (t235.toList != a0.toList) = false := bne_eq_false_iff_eq.mpr c52
                clear c52
                simp only [Option.some.injEq, Prod.mk.injEq] at H
                obtain ⟨rfl, rfl, rfl, rfl, rfl⟩ := H
                have hnb53 := NB229_223.out
                have hnc53 := NB223_229.out
                have hcz54_0 : wr.cell? ⟨gb229, 0, none⟩ = some (.int .u64 t226) := (bC BK229.out 0).trans rfl
                have hcz54_1 : wr.cell? ⟨gb229, 1, none⟩ = some (.int .i64 (wrap64 (t227))) := (bC BK229.out 1).trans rfl
                have hcz54_2 : wr.cell? ⟨gb229, 2, none⟩ = some (.int .i64 (wrap64 (t228))) := (bC BK229.out 2).trans rfl
                have hcz54_3 : wr.cell? ⟨gb229, 3, none⟩ = some (u230003) := (bC BK229.out 3).trans rfl
                have hfz54_0 := bF BK229.out 0
                have hfz54_1 := bF BK229.out 1
                have hfz54_2 := bF BK229.out 2
                have hfz54_3 := bF BK229.out 3
                obtain ⟨Ao55, co55, eo55⟩ := Kd.R_slice HO_230003.out
                subst eo55
                go_wp2_with (first | ((with_reducible refine gate_callee (f := 11) rfl ?_); refine goesL_ (some 75) rfl rfl Tryd.func11 (by kernel_rfl) rfl #[.agg #[.int .u64 t226, .int .i64 (wrap64 (t227)), .int .i64 (wrap64 (t228)), .slice Ao55 x230003_1.length co55]] rfl (by (try simp only [List.map_toArray, List.map_cons, List.map_nil]); first | done | rfl | (simp only [List.length_drop, List.length_take]; rfl) | (rw [wrap_sum2 (by assumption)]; rfl)) ?_; (with_reducible refine (r6_Put.calls k1 t226 (wrap64 (t227)) (wrap64 (t228)) _ _ x230003_1 t235 t236 _ ?side1 ?side2 A50.out).mono ?_); (case side1 => repeat (first | exact (Kd.R_reads' HO_230003.out).2.2 | (with_reducible refine Kd.C_alloc ?_ _) | (with_reducible refine Kd.C_drewN ?_ _) | (with_reducible refine Kd.C_drew ?_))); (case side2 => exact (Kd.R_reads' HO_230003.out).2.1); rintro e w56 ⟨rfl, hb⟩; refine ⟨_, rfl, ?_⟩; have n0_ := Ax.mk (Kd.R_below (by exact Kd.R_to HO_230003.out) hb); have n1_ := Ax.mk (bB (bT BK223.out) hb); have n2_ := Ax.mk (bB (bT BK229.out) hb); have n3_ := Ax.mk (bP bA hb); clear HO_230003; clear BK223; clear BK229; clear HB; have HO_230003 := n0_; have BK223 := n1_; have BK229 := n2_; have HB := n3_; clear n0_ n1_ n2_ n3_; (try clear hb); (try clear hb2); (try clear hk); (try clear hi); have hcz57_0 : w56.cell? ⟨gb229, 0, none⟩ = some (.int .u64 t226) := (bC BK229.out 0).trans rfl; have hcz57_1 : w56.cell? ⟨gb229, 1, none⟩ = some (.int .i64 (wrap64 (t227))) := (bC BK229.out 1).trans rfl; have hcz57_2 : w56.cell? ⟨gb229, 2, none⟩ = some (.int .i64 (wrap64 (t228))) := (bC BK229.out 2).trans rfl; have hcz57_3 : w56.cell? ⟨gb229, 3, none⟩ = some (.slice Ao55 x230003_1.length co55) := (bC BK229.out 3).trans rfl; have hfz57_0 := bF BK229.out 0; have hfz57_1 := bF BK229.out 1; have hfz57_2 := bF BK229.out 2; have hfz57_3 := bF BK229.out 3; have hcz58_0 : w56.cell? ⟨gb223, 0, none⟩ = some (.int .u64 0) := (bC BK223.out 0).trans rfl; have hcz58_1 : w56.cell? ⟨gb223, 1, none⟩ = some (.int .i64 0) := (bC BK223.out 1).trans rfl; have hcz58_2 : w56.cell? ⟨gb223, 2, none⟩ = some (.int .i64 0) := (bC BK223.out 2).trans rfl; have hcz58_3 : w56.cell? ⟨gb223, 3, none⟩ = some (.slice none 0 0) := (bC BK223.out 3).trans rfl; have hfz58_0 := bF BK223.out 0; have hfz58_1 := bF BK223.out 1; have hfz58_2 := bF BK223.out 2; have hfz58_3 := bF BK223.out 3))
                refine bodyPost_ret (results_ct rfl _ _ gb223 31 #[.int .u64 t226, .int .i64 (wrap64 (t227)), .int .i64 (wrap64 (t228)), .slice Ao55 x230003_1.length co55] (0, 0) _ rfl (by refine bT ?_; refine bU (cs := #[.int .u64 t226, .int .i64 (wrap64 (t227)), .int .i64 (wrap64 (t228)), .slice none 0 0]) ?_ 3 _ rfl; refine bT ?_; refine bU (cs := #[.int .u64 t226, .int .i64 (wrap64 (t227)), .int .i64 0, .slice none 0 0]) ?_ 2 _ rfl; refine bT ?_; refine bU (cs := #[.int .u64 t226, .int .i64 0, .int .i64 0, .slice none 0 0]) ?_ 1 _ rfl; refine bT ?_; refine bU (cs := #[.int .u64 0, .int .i64 0, .int .i64 0, .slice none 0 0]) ?_ 0 _ rfl; exact bT BK223.out) Tryd.underlying31 rfl (by kernel_rfl)) rfl ?_
                exact ⟨_, by first | rfl | (simp [errW_none, errW_some] <;> rfl) | (simp [*, errW_none, errW_some] <;> rfl), by apply Kd.R_to; exact Kd.R_mono (Kd.R_far (p := ⟨gb223, 3, none⟩) (Kd.R_far (p := ⟨gb223, 2, none⟩) (Kd.R_far (p := ⟨gb223, 1, none⟩) (Kd.R_far (p := ⟨gb223, 0, none⟩) (Kd.R_types HO_230003.out BK223.out (by decide)) (fun _ hk => hk.2) (.int .u64 t226)) (fun _ hk => hk.2) (.int .i64 (wrap64 (t227)))) (fun _ hk => hk.2) (.int .i64 (wrap64 (t228)))) (fun _ hk => hk.2) (.slice Ao55 x230003_1.length co55)) (fun _ hk => trivial), bA⟩
               ·rw [if_neg c52] at H
                have c52b0 : (t235.toList == a0.toList) = false := beq_eq_false_iff_ne.mpr c52
                have c52b1 : (t235.toList != a0.toList) = true := bne_iff_ne.mpr c52
                simp only [Option.some.injEq, Prod.mk.injEq] at H
                obtain ⟨rfl, rfl, rfl, rfl, rfl⟩ := H
                have hnb59 := NB229_223.out
                have hnc59 := NB223_229.out
                have hcz60_0 : wr.cell? ⟨gb229, 0, none⟩ = some (.int .u64 t226) := (bC BK229.out 0).trans rfl
                have hcz60_1 : wr.cell? ⟨gb229, 1, none⟩ = some (.int .i64 (wrap64 (t227))) := (bC BK229.out 1).trans rfl
                have hcz60_2 : wr.cell? ⟨gb229, 2, none⟩ = some (.int .i64 (wrap64 (t228))) := (bC BK229.out 2).trans rfl
                have hcz60_3 : wr.cell? ⟨gb229, 3, none⟩ = some (u230003) := (bC BK229.out 3).trans rfl
                have hfz60_0 := bF BK229.out 0
                have hfz60_1 := bF BK229.out 1
                have hfz60_2 := bF BK229.out 2
                have hfz60_3 := bF BK229.out 3
                obtain ⟨Ao61, co61, eo61⟩ := Kd.R_slice HO_230003.out
                subst eo61
                go_wp2_with (first | ((with_reducible refine gate_callee (f := 11) rfl ?_); refine goesL_ (some 75) rfl rfl Tryd.func11 (by kernel_rfl) rfl #[.agg #[.int .u64 t226, .int .i64 (wrap64 (t227)), .int .i64 (wrap64 (t228)), .slice Ao61 x230003_1.length co61]] rfl (by (try simp only [List.map_toArray, List.map_cons, List.map_nil]); first | done | rfl | (simp only [List.length_drop, List.length_take]; rfl) | (rw [wrap_sum2 (by assumption)]; rfl)) ?_; (with_reducible refine (r6_Put.calls k1 t226 (wrap64 (t227)) (wrap64 (t228)) _ _ x230003_1 t235 t236 _ ?side1 ?side2 A50.out).mono ?_); (case side1 => repeat (first | exact (Kd.R_reads' HO_230003.out).2.2 | (with_reducible refine Kd.C_alloc ?_ _) | (with_reducible refine Kd.C_drewN ?_ _) | (with_reducible refine Kd.C_drew ?_))); (case side2 => exact (Kd.R_reads' HO_230003.out).2.1); rintro e w62 ⟨rfl, hb⟩; refine ⟨_, rfl, ?_⟩; have n0_ := Ax.mk (Kd.R_below (by exact Kd.R_to HO_230003.out) hb); have n1_ := Ax.mk (bB (bT BK223.out) hb); have n2_ := Ax.mk (bB (bT BK229.out) hb); have n3_ := Ax.mk (bP bA hb); clear HO_230003; clear BK223; clear BK229; clear HB; have HO_230003 := n0_; have BK223 := n1_; have BK229 := n2_; have HB := n3_; clear n0_ n1_ n2_ n3_; (try clear hb); (try clear hb2); (try clear hk); (try clear hi); have hcz63_0 : w62.cell? ⟨gb223, 0, none⟩ = some (.int .u64 0) := (bC BK223.out 0).trans rfl; have hcz63_1 : w62.cell? ⟨gb223, 1, none⟩ = some (.int .i64 0) := (bC BK223.out 1).trans rfl; have hcz63_2 : w62.cell? ⟨gb223, 2, none⟩ = some (.int .i64 0) := (bC BK223.out 2).trans rfl; have hcz63_3 : w62.cell? ⟨gb223, 3, none⟩ = some (.slice none 0 0) := (bC BK223.out 3).trans rfl; have hfz63_0 := bF BK223.out 0; have hfz63_1 := bF BK223.out 1; have hfz63_2 := bF BK223.out 2; have hfz63_3 := bF BK223.out 3))
                refine bodyPost_ret (results_ct rfl _ _ gb223 31 #[.int .u64 0, .int .i64 0, .int .i64 0, .slice none 0 0] (0, 0) _ rfl (by refine bT ?_; refine bU (cs := #[.int .u64 0, .int .i64 0, .int .i64 0, .slice none 0 0]) ?_ 3 _ rfl; refine bT ?_; refine bU (cs := #[.int .u64 0, .int .i64 0, .int .i64 0, .slice none 0 0]) ?_ 2 _ rfl; refine bT ?_; refine bU (cs := #[.int .u64 0, .int .i64 0, .int .i64 0, .slice none 0 0]) ?_ 1 _ rfl; refine bT ?_; refine bU (cs := #[.int .u64 0, .int .i64 0, .int .i64 0, .slice none 0 0]) ?_ 0 _ rfl; exact bT BK223.out) Tryd.underlying31 rfl (by kernel_rfl)) rfl ?_
                exact ⟨_, by first | rfl | (simp [errW_none, errW_some] <;> rfl) | (simp [*, errW_none, errW_some] <;> rfl), by first | exact Kd.R_nil _ _ _ _ _ | exact Kd.N_nil _ _ _ _ _ | exact Kd.V_nil _ _ _ _ _ | exact Kd.Q_nil _ _ _ _ _ | exact Kd.S_nil _ _ _ _ _, bA⟩
              ·rw [if_neg c51] at H
               have c51b0 : (t236 == 0) = false := beq_eq_false_iff_ne.mpr c51
               have c51b1 : (t236 != 0) = true := bne_iff_ne.mpr c51
               simp only [Option.some.injEq, Prod.mk.injEq] at H
               obtain ⟨rfl, rfl, rfl, rfl, rfl⟩ := H
               have hnb64 := NB229_223.out
               have hnc64 := NB223_229.out
               have hcz65_0 : wr.cell? ⟨gb229, 0, none⟩ = some (.int .u64 t226) := (bC BK229.out 0).trans rfl
               have hcz65_1 : wr.cell? ⟨gb229, 1, none⟩ = some (.int .i64 (wrap64 (t227))) := (bC BK229.out 1).trans rfl
               have hcz65_2 : wr.cell? ⟨gb229, 2, none⟩ = some (.int .i64 (wrap64 (t228))) := (bC BK229.out 2).trans rfl
               have hcz65_3 : wr.cell? ⟨gb229, 3, none⟩ = some (u230003) := (bC BK229.out 3).trans rfl
               have hfz65_0 := bF BK229.out 0
               have hfz65_1 := bF BK229.out 1
               have hfz65_2 := bF BK229.out 2
               have hfz65_3 := bF BK229.out 3
               obtain ⟨Ao66, co66, eo66⟩ := Kd.R_slice HO_230003.out
               subst eo66
               go_wp2_with (first | ((with_reducible refine gate_callee (f := 11) rfl ?_); refine goesL_ (some 75) rfl rfl Tryd.func11 (by kernel_rfl) rfl #[.agg #[.int .u64 t226, .int .i64 (wrap64 (t227)), .int .i64 (wrap64 (t228)), .slice Ao66 x230003_1.length co66]] rfl (by (try simp only [List.map_toArray, List.map_cons, List.map_nil]); first | done | rfl | (simp only [List.length_drop, List.length_take]; rfl) | (rw [wrap_sum2 (by assumption)]; rfl)) ?_; (with_reducible refine (r6_Put.calls k1 t226 (wrap64 (t227)) (wrap64 (t228)) _ _ x230003_1 t235 t236 _ ?side1 ?side2 A50.out).mono ?_); (case side1 => repeat (first | exact (Kd.R_reads' HO_230003.out).2.2 | (with_reducible refine Kd.C_alloc ?_ _) | (with_reducible refine Kd.C_drewN ?_ _) | (with_reducible refine Kd.C_drew ?_))); (case side2 => exact (Kd.R_reads' HO_230003.out).2.1); rintro e w67 ⟨rfl, hb⟩; refine ⟨_, rfl, ?_⟩; have n0_ := Ax.mk (Kd.R_below (by exact Kd.R_to HO_230003.out) hb); have n1_ := Ax.mk (bB (bT BK223.out) hb); have n2_ := Ax.mk (bB (bT BK229.out) hb); have n3_ := Ax.mk (bP bA hb); clear HO_230003; clear BK223; clear BK229; clear HB; have HO_230003 := n0_; have BK223 := n1_; have BK229 := n2_; have HB := n3_; clear n0_ n1_ n2_ n3_; (try clear hb); (try clear hb2); (try clear hk); (try clear hi); have hcz68_0 : w67.cell? ⟨gb223, 0, none⟩ = some (.int .u64 0) := (bC BK223.out 0).trans rfl; have hcz68_1 : w67.cell? ⟨gb223, 1, none⟩ = some (.int .i64 0) := (bC BK223.out 1).trans rfl; have hcz68_2 : w67.cell? ⟨gb223, 2, none⟩ = some (.int .i64 0) := (bC BK223.out 2).trans rfl; have hcz68_3 : w67.cell? ⟨gb223, 3, none⟩ = some (.slice none 0 0) := (bC BK223.out 3).trans rfl; have hfz68_0 := bF BK223.out 0; have hfz68_1 := bF BK223.out 1; have hfz68_2 := bF BK223.out 2; have hfz68_3 := bF BK223.out 3))
               refine bodyPost_ret (results_ct rfl _ _ gb223 31 #[.int .u64 0, .int .i64 0, .int .i64 0, .slice none 0 0] (0, 0) _ rfl (by refine bT ?_; refine bU (cs := #[.int .u64 0, .int .i64 0, .int .i64 0, .slice none 0 0]) ?_ 3 _ rfl; refine bT ?_; refine bU (cs := #[.int .u64 0, .int .i64 0, .int .i64 0, .slice none 0 0]) ?_ 2 _ rfl; refine bT ?_; refine bU (cs := #[.int .u64 0, .int .i64 0, .int .i64 0, .slice none 0 0]) ?_ 1 _ rfl; refine bT ?_; refine bU (cs := #[.int .u64 0, .int .i64 0, .int .i64 0, .slice none 0 0]) ?_ 0 _ rfl; exact bT BK223.out) Tryd.underlying31 rfl (by kernel_rfl)) rfl ?_
               exact ⟨_, by first | rfl | (simp [errW_none, errW_some] <;> rfl) | (simp [*, errW_none, errW_some] <;> rfl), by first | exact Kd.R_nil _ _ _ _ _ | exact Kd.N_nil _ _ _ _ _ | exact Kd.V_nil _ _ _ _ _ | exact Kd.Q_nil _ _ _ _ _ | exact Kd.S_nil _ _ _ _ _, bA⟩
          ·rw [if_neg c18] at H
           exact absurd H (by simp)
         ·rw [if_neg c17] at H
          exact absurd H (by simp)
        ·rw [if_neg c15] at H
         exact absurd H (by simp)
       ·rw [if_neg c14] at H
        exact absurd H (by simp)
      ·rw [if_neg c12] at H
       exact absurd H (by simp)
     ·rw [if_neg c11] at H
      exact absurd H (by simp)
   ·rw [if_neg c5] at H
    exact absurd H (by simp)
  ·rw [if_neg c4] at H
   have c4b0 : (t225 == 0) = false := beq_eq_false_iff_ne.mpr c4
   have c4b1 : (t225 != 0) = true := bne_iff_ne.mpr c4
   simp only [Option.some.injEq, Prod.mk.injEq] at H
   obtain ⟨rfl, rfl, rfl, rfl, rfl⟩ := H
   go_enter Tryd.func17, Tryd.ntmps17
   go_wp2_with (first | ((with_reducible refine gate_dst (N := 2) rfl ?_); refine box_event ?hg (N := 2) ?hd (cs := #[.int .u64 0, .int .i64 0, .int .i64 0, .slice none 0 0]) (t := 31) ?hr ?_; (case hd => rfl); (case hg => rfl); (case hr => first | (go_simp; done) | (go_simp; rfl)); intro gb223 hg w69 hbox hb; have n0_ := Ax.mk (bP bA hb); have n1_ := Ax.mk (hbox); have n2_ := Ax.mk ((ge_new hg : w.heap.size ≤ gb223)); have n3_ := n2_; clear HB; have HB := n0_; have BK223 := n1_; have GW223 := n2_; have GE223 := n3_; clear n0_ n1_ n2_ n3_; clear hb hbox hg) | ((with_reducible refine gate_callee (f := 42) rfl ?_); refine goesL_ (some 17) rfl rfl Tryd.func42 (by kernel_rfl) rfl #[.string a0] rfl (by (try simp only [List.map_toArray, List.map_cons, List.map_nil]); first | done | rfl | (simp only [List.length_drop, List.length_take]; rfl) | (rw [wrap_sum2 (by assumption)]; rfl)) ?_; (with_reducible refine (r3_Take.calls k a0 t224 t225 _ A3.out).mono ?_); rintro e w70 ⟨rfl, hb⟩; refine ⟨_, rfl, ?_⟩; have n0_ := Ax.mk (bB (bT BK223.out) hb); have n1_ := Ax.mk (bP bA hb); clear BK223; clear HB; have BK223 := n0_; have HB := n1_; clear n0_ n1_; (try clear hb); (try clear hb2); (try clear hk); (try clear hi); have hcz71_0 : w70.cell? ⟨gb223, 0, none⟩ = some (.int .u64 0) := (bC BK223.out 0).trans rfl; have hcz71_1 : w70.cell? ⟨gb223, 1, none⟩ = some (.int .i64 0) := (bC BK223.out 1).trans rfl; have hcz71_2 : w70.cell? ⟨gb223, 2, none⟩ = some (.int .i64 0) := (bC BK223.out 2).trans rfl; have hcz71_3 : w70.cell? ⟨gb223, 3, none⟩ = some (.slice none 0 0) := (bC BK223.out 3).trans rfl; have hfz71_0 := bF BK223.out 0; have hfz71_1 := bF BK223.out 1; have hfz71_2 := bF BK223.out 2; have hfz71_3 := bF BK223.out 3))
   refine bodyPost_ret (results_ct rfl _ _ gb223 31 #[.int .u64 0, .int .i64 0, .int .i64 0, .slice none 0 0] (0, 0) _ rfl (by refine bT ?_; refine bU (cs := #[.int .u64 0, .int .i64 0, .int .i64 0, .slice none 0 0]) ?_ 3 _ rfl; refine bT ?_; refine bU (cs := #[.int .u64 0, .int .i64 0, .int .i64 0, .slice none 0 0]) ?_ 2 _ rfl; refine bT ?_; refine bU (cs := #[.int .u64 0, .int .i64 0, .int .i64 0, .slice none 0 0]) ?_ 1 _ rfl; refine bT ?_; refine bU (cs := #[.int .u64 0, .int .i64 0, .int .i64 0, .slice none 0 0]) ?_ 0 _ rfl; exact bT BK223.out) Tryd.underlying31 rfl (by kernel_rfl)) rfl ?_
   exact ⟨_, by first | rfl | (simp [errW_none, errW_some] <;> rfl) | (simp [*, errW_none, errW_some] <;> rfl), by first | exact Kd.R_nil _ _ _ _ _ | exact Kd.N_nil _ _ _ _ _ | exact Kd.V_nil _ _ _ _ _ | exact Kd.Q_nil _ _ _ _ _ | exact Kd.S_nil _ _ _ _ _, bA⟩
 ·rw [if_neg c2] at H
  have c2b0 : ((a0.size : Int) == 64) = false := beq_eq_false_iff_ne.mpr c2
  have c2b1 : ((a0.size : Int) != 64) = true := bne_iff_ne.mpr c2
  simp only [Option.some.injEq, Prod.mk.injEq] at H
  obtain ⟨rfl, rfl, rfl, rfl, rfl⟩ := H
  go_enter Tryd.func17, Tryd.ntmps17
  go_wp2_with (first | ((with_reducible refine gate_dst (N := 2) rfl ?_); refine box_event ?hg (N := 2) ?hd (cs := #[.int .u64 0, .int .i64 0, .int .i64 0, .slice none 0 0]) (t := 31) ?hr ?_; (case hd => rfl); (case hg => rfl); (case hr => first | (go_simp; done) | (go_simp; rfl)); intro gb223 hg w72 hbox hb; have n0_ := Ax.mk (bP bA hb); have n1_ := Ax.mk (hbox); have n2_ := Ax.mk ((ge_new hg : w.heap.size ≤ gb223)); have n3_ := n2_; clear HB; have HB := n0_; have BK223 := n1_; have GW223 := n2_; have GE223 := n3_; clear n0_ n1_ n2_ n3_; clear hb hbox hg; have hcz73_0 : w72.cell? ⟨gb223, 0, none⟩ = some (.int .u64 0) := (bC BK223.out 0).trans rfl; have hcz73_1 : w72.cell? ⟨gb223, 1, none⟩ = some (.int .i64 0) := (bC BK223.out 1).trans rfl; have hcz73_2 : w72.cell? ⟨gb223, 2, none⟩ = some (.int .i64 0) := (bC BK223.out 2).trans rfl; have hcz73_3 : w72.cell? ⟨gb223, 3, none⟩ = some (.slice none 0 0) := (bC BK223.out 3).trans rfl; have hfz73_0 := bF BK223.out 0; have hfz73_1 := bF BK223.out 1; have hfz73_2 := bF BK223.out 2; have hfz73_3 := bF BK223.out 3))
  refine bodyPost_ret (results_ct rfl _ _ gb223 31 #[.int .u64 0, .int .i64 0, .int .i64 0, .slice none 0 0] (0, 0) _ rfl (by refine bT ?_; refine bU (cs := #[.int .u64 0, .int .i64 0, .int .i64 0, .slice none 0 0]) ?_ 3 _ rfl; refine bT ?_; refine bU (cs := #[.int .u64 0, .int .i64 0, .int .i64 0, .slice none 0 0]) ?_ 2 _ rfl; refine bT ?_; refine bU (cs := #[.int .u64 0, .int .i64 0, .int .i64 0, .slice none 0 0]) ?_ 1 _ rfl; refine bT ?_; refine bU (cs := #[.int .u64 0, .int .i64 0, .int .i64 0, .slice none 0 0]) ?_ 0 _ rfl; exact bT BK223.out) Tryd.underlying31 rfl (by kernel_rfl)) rfl ?_
  exact ⟨_, by first | rfl | (simp [errW_none, errW_some] <;> rfl) | (simp [*, errW_none, errW_some] <;> rfl), by first | exact Kd.R_nil _ _ _ _ _ | exact Kd.N_nil _ _ _ _ _ | exact Kd.V_nil _ _ _ _ _ | exact Kd.Q_nil _ _ _ _ _ | exact Kd.S_nil _ _ _ _ _, bA⟩
end Go.Proofs.YtcgejogmiglalaaDoor.Fn
end
