-- Packed by pack.py, a program of this session, out of texts of this claim.
import Derived.Test.YtcgejogmiglalaaDoorClHeadPuts1
import Derived.Test.YtcgejogmiglalaaDoorLfShelf
import Derived.Deep.RegionHeld3
import Derived.LoopTactic
import Derived.Defers
import Derived.Lib.Hide
import Derived.RegionTactic
section
-- Written by printx.py, a program of this session over the kit's print: each Go function as a plain Lean function, and that the Go code computes it.
namespace Go.Proofs.YtcgejogmiglalaaDoor.Fn
open Go.RowKit Go.Proofs.YtcgejogmiglalaaDoorW.PrintWords Go.Proofs.YtcgejogmiglalaaDoorW.PrintLast Go.Proofs.YtcgejogmiglalaaDoorW.PrintMore Go.Proofs.YtcgejogmiglalaaDoor.Lf
open List (setIfInBounds_toArray set_cons_zero set_cons_succ)
attribute [local go_sem] max2_int min2_int max_two min_two max_three min_three max_four min_four   -- for this text's walks alone
set_option linter.unusedVariables false
set_option linter.unusedSimpArgs false
mutual
def r6_Put.l0 : Nat → ByteArray → Int → Int → Int → Int → List (S53) → Option (ByteArray × Int)
 | 0, _, _, _, _, _, _ => none
 | k + 1, x5, x6, x212000, x212001, x212002, x212003 => if x6 < (x212003.length : Int) then (if 0 ≤ x6 then ((r2_Put.f k (IntKind.u64.wrap ((rd_T53 x212003 x6).f0)) 2).bind fun t218 => (if x5.size + t218.size ≤ 9223372036854775807 then ((r2_Put.f k (IntKind.u64.wrap ((rd_T53 x212003 x6).f1)) 2).bind fun t220 => (if x5.size + t218.size + t220.size ≤ 9223372036854775807 then (r6_Put.l0 k ((x5 ++ t218) ++ t220) (wrap64 (x6 + 1)) x212000 x212001 x212002 x212003) else (none))) else (none))) else (none)) else (r6_Put.l1 k x5)
def r6_Put.l1 : Nat → ByteArray → Option (ByteArray × Int)
 | 0, _ => none
 | k + 1, x5 => if (x5.size : Int) < 60 then (if x5.size + 1 ≤ 9223372036854775807 then (r6_Put.l1 k (x5 ++ (⟨#[0]⟩ : ByteArray))) else (none)) else ((r3_Put.f k x5).bind fun t221 => (some (t221, 0)))
end
def r6_Put.f (k : Nat) (a0_0 : Int) (a0_1 : Int) (a0_2 : Int) (l0_3 : List (S53)) : Option (ByteArray × Int) := (r6_Right.f k a0_0 a0_1 a0_2 l0_3).bind fun t212 => (if t212 = true then ((r2_Put.f k a0_0 8).bind fun t213 => (if 4 + t213.size ≤ 9223372036854775807 then ((r2_Put.f k (IntKind.u64.wrap (a0_1)) 2).bind fun t214 => (if (⟨#[114, 116, 99, 108]⟩ : ByteArray).size + t213.size + t214.size ≤ 9223372036854775807 then ((r2_Put.f k (IntKind.u64.wrap (a0_2)) 4).bind fun t215 => (if (⟨#[114, 116, 99, 108]⟩ : ByteArray).size + t213.size + t214.size + t215.size ≤ 9223372036854775807 then ((r2_Put.f k (IntKind.u64.wrap ((l0_3.length : Int))) 1).bind fun t216 => (if (⟨#[114, 116, 99, 108]⟩ : ByteArray).size + t213.size + t214.size + t215.size + t216.size ≤ 9223372036854775807 then (r6_Put.l0 k (((((⟨#[114, 116, 99, 108]⟩ : ByteArray) ++ t213) ++ t214) ++ t215) ++ t216) 0 a0_0 a0_1 a0_2 l0_3) else (none))) else (none))) else (none))) else (none))) else (some ((⟨#[]⟩ : ByteArray), 1)))
theorem r6_Put.mono_l : ∀ k, (∀ y0 y1 y2 y3 y4 y5, LeO (r6_Put.l0 k y0 y1 y2 y3 y4 y5) (r6_Put.l0 (k + 1) y0 y1 y2 y3 y4 y5)) ∧ (∀ y0, LeO (r6_Put.l1 k y0) (r6_Put.l1 (k + 1) y0))
 | 0 => ⟨fun _ _ _ _ _ _ r h => by simp [r6_Put.l0] at h, fun _ r h => by simp [r6_Put.l1] at h⟩
 | k + 1 => by
  obtain ⟨ih0, ih1⟩ := r6_Put.mono_l k
  refine ⟨?_, ?_⟩
  ·intro y0 y1 y2 y3 y4 y5
   unfold r6_Put.l0
   repeat' first
   | (with_reducible exact ih0 _ _ _ _ _ _)
   | (with_reducible exact ih1 _)
   | (with_reducible exact r2_Put.mono _ _ _)
   | (with_reducible exact r3_Put.mono _ _)
   | (with_reducible exact r6_Right.mono _ _ _ _ _)
   | (with_reducible exact LeO.refl _)
   | (with_reducible exact LeO.none _)
   | (with_reducible refine LeO.ite ?_ ?_)
   | (with_reducible refine LeO.bind ?_ (fun _ => ?_))
   | exact ih0 _ _ _ _ _ _
   | exact ih1 _
   | exact r2_Put.mono _ _ _
   | exact r3_Put.mono _ _
   | exact r6_Right.mono _ _ _ _ _
   | exact LeO.none _
   | refine LeO.ite ?_ ?_
   | refine LeO.bind ?_ (fun _ => ?_)
  ·intro y0
   unfold r6_Put.l1
   repeat' first
   | (with_reducible exact ih0 _ _ _ _ _ _)
   | (with_reducible exact ih1 _)
   | (with_reducible exact r2_Put.mono _ _ _)
   | (with_reducible exact r3_Put.mono _ _)
   | (with_reducible exact r6_Right.mono _ _ _ _ _)
   | (with_reducible exact LeO.refl _)
   | (with_reducible exact LeO.none _)
   | (with_reducible refine LeO.ite ?_ ?_)
   | (with_reducible refine LeO.bind ?_ (fun _ => ?_))
   | exact ih0 _ _ _ _ _ _
   | exact ih1 _
   | exact r2_Put.mono _ _ _
   | exact r3_Put.mono _ _
   | exact r6_Right.mono _ _ _ _ _
   | exact LeO.none _
   | refine LeO.ite ?_ ?_
   | refine LeO.bind ?_ (fun _ => ?_)
theorem r6_Put.mono : ∀ a0 a1 a2 a3 k, LeO (r6_Put.f k a0 a1 a2 a3) (r6_Put.f (k + 1) a0 a1 a2 a3) := by
 intro a0 a1 a2 a3 k
 obtain ⟨ih0, ih1⟩ := r6_Put.mono_l k
 unfold r6_Put.f
 repeat' first
   | (with_reducible exact ih0 _ _ _ _ _ _)
   | (with_reducible exact ih1 _)
   | (with_reducible exact r2_Put.mono _ _ _)
   | (with_reducible exact r3_Put.mono _ _)
   | (with_reducible exact r6_Right.mono _ _ _ _ _)
   | (with_reducible exact LeO.refl _)
   | (with_reducible exact LeO.none _)
   | (with_reducible refine LeO.ite ?_ ?_)
   | (with_reducible refine LeO.bind ?_ (fun _ => ?_))
   | exact ih0 _ _ _ _ _ _
   | exact ih1 _
   | exact r2_Put.mono _ _ _
   | exact r3_Put.mono _ _
   | exact r6_Right.mono _ _ _ _ _
   | exact LeO.none _
   | refine LeO.ite ?_ ?_
   | refine LeO.bind ?_ (fun _ => ?_)
def r6_Put.T4 : Bool × List (List Nat × List Nat) := (true, [([], []), ([0], [0]), ([1], [1]), ([2], [2]), ([], []), ([4], [4]), ([5], [5]), ([6, 2], [6]), ([3, 7], [3, 7]), ([], []), ([9], [9]), ([10], [10]), ([11, 7], [11]), ([8, 12], [8, 12]), ([], []), ([14], [14]), ([15], [15]), ([16], [16]), ([17, 12], [17]), ([13, 18], [13, 18]), ([19, 18, 0, 1, 2, 3, 4, 5, 6, 7, 8, 9, 10, 11, 12, 13, 14, 15, 16, 17, 18, 19], [19])])
def r6_Put.B4 : List Nat := [0, 1, 3, 7, 0, 16, 48, 119, 255, 0, 512, 1536, 3831, 8191, 0, 16384, 49152, 114688, 253687, 524287, 1048575]
theorem r6_Put.tab4 : rtab .any (opsOf Tryd.f11 4) = r6_Put.T4 := by kernel_rfl
theorem r6_Put.bits4 : waitsOk r6_Put.T4.2 r6_Put.B4 = true := by kernel_rfl
def r6_Put.T8 : Bool × List (List Nat × List Nat) := (true, [([], []), ([], []), ([1], [1]), ([], []), ([2, 3], [2, 3]), ([4], [4]), ([5], [5]), ([6], [6]), ([7], [7]), ([0, 8], [0, 8]), ([], []), ([10], [10]), ([], []), ([11, 12], [11, 12]), ([13], [13]), ([14], [14]), ([15], [15]), ([16, 8], [16]), ([9, 17], [9, 17]), ([18, 17, 0, 1, 2, 3, 4, 5, 6, 7, 8, 9, 10, 11, 12, 13, 14, 15, 16, 17, 18], [0, 18])])
def r6_Put.B8 : List Nat := [0, 0, 2, 0, 14, 30, 62, 126, 254, 511, 0, 1024, 0, 7168, 15360, 31744, 64512, 130558, 262143, 524287]
theorem r6_Put.tab8 : rtab .any (opsOf Tryd.f11 8) = r6_Put.T8 := by kernel_rfl
theorem r6_Put.bits8 : waitsOk r6_Put.T8.2 r6_Put.B8 = true := by kernel_rfl
set_option maxHeartbeats 8000000 in
set_option maxRecDepth 100000 in
theorem r6_Put.calls (k : Nat) (a0_0 : Int) (a0_1 : Int) (a0_2 : Int) (A0_3 : Option Addr) (c0_3 : Nat) (l0_3 : List (S53)) (r1 : ByteArray) (r2 : Int) (w : World) (hr0_3 : Kd.C k53 w A0_3 l0_3.length l0_3) (hc0_3 : l0_3.length ≤ c0_3) (h : r6_Put.f k a0_0 a0_1 a0_2 l0_3 = some (r1, r2)) :
  Calls Tryd.prog 11 #[.agg #[.int .u64 a0_0, .int .i64 a0_1, .int .i64 a0_2, .slice A0_3 l0_3.length c0_3]] w fun e w' => e = .returned (.tuple #[.string r1, .int .i64 r2]) ∧ Below w.heap.size w w' := by
 have hu31 := Tryd.underlying31
 have HR0_3 := Ax.mk hr0_3
 have HC0_3 := Ax.mk hc0_3
 clear hr0_3 hc0_3
 have HB := Ax.mk (Below.refl w.heap.size w)
 have H : ((r6_Right.f k a0_0 a0_1 a0_2 l0_3).bind fun t212 => (if t212 = true then ((r2_Put.f k a0_0 8).bind fun t213 => (if 4 + t213.size ≤ 9223372036854775807 then ((r2_Put.f k (IntKind.u64.wrap (a0_1)) 2).bind fun t214 => (if (⟨#[114, 116, 99, 108]⟩ : ByteArray).size + t213.size + t214.size ≤ 9223372036854775807 then ((r2_Put.f k (IntKind.u64.wrap (a0_2)) 4).bind fun t215 => (if (⟨#[114, 116, 99, 108]⟩ : ByteArray).size + t213.size + t214.size + t215.size ≤ 9223372036854775807 then ((r2_Put.f k (IntKind.u64.wrap ((l0_3.length : Int))) 1).bind fun t216 => (if (⟨#[114, 116, 99, 108]⟩ : ByteArray).size + t213.size + t214.size + t215.size + t216.size ≤ 9223372036854775807 then (r6_Put.l0 k (((((⟨#[114, 116, 99, 108]⟩ : ByteArray) ++ t213) ++ t214) ++ t215) ++ t216) 0 a0_0 a0_1 a0_2 l0_3) else (none))) else (none))) else (none))) else (none))) else (some ((⟨#[]⟩ : ByteArray), 1)))) = some (r1, r2) := h
 clear h
 replace H := Option.bind_eq_some_iff.mp H
 obtain ⟨t212, A20, H⟩ := H
 replace H : (if t212 = true then ((r2_Put.f k a0_0 8).bind fun t213 => (if 4 + t213.size ≤ 9223372036854775807 then ((r2_Put.f k (IntKind.u64.wrap (a0_1)) 2).bind fun t214 => (if (⟨#[114, 116, 99, 108]⟩ : ByteArray).size + t213.size + t214.size ≤ 9223372036854775807 then ((r2_Put.f k (IntKind.u64.wrap (a0_2)) 4).bind fun t215 => (if (⟨#[114, 116, 99, 108]⟩ : ByteArray).size + t213.size + t214.size + t215.size ≤ 9223372036854775807 then ((r2_Put.f k (IntKind.u64.wrap ((l0_3.length : Int))) 1).bind fun t216 => (if (⟨#[114, 116, 99, 108]⟩ : ByteArray).size + t213.size + t214.size + t215.size + t216.size ≤ 9223372036854775807 then (r6_Put.l0 k (((((⟨#[114, 116, 99, 108]⟩ : ByteArray) ++ t213) ++ t214) ++ t215) ++ t216) 0 a0_0 a0_1 a0_2 l0_3) else (none))) else (none))) else (none))) else (none))) else (some ((⟨#[]⟩ : ByteArray), 1))) = some (r1, r2) := H
 have A2 := Ax.mk A20
 clear A20
 by_cases c3 : t212 = true
 ·subst c3
  have H1 : ((r2_Put.f k a0_0 8).bind fun t213 => (if 4 + t213.size ≤ 9223372036854775807 then ((r2_Put.f k (IntKind.u64.wrap (a0_1)) 2).bind fun t214 => (if (⟨#[114, 116, 99, 108]⟩ : ByteArray).size + t213.size + t214.size ≤ 9223372036854775807 then ((r2_Put.f k (IntKind.u64.wrap (a0_2)) 4).bind fun t215 => (if (⟨#[114, 116, 99, 108]⟩ : ByteArray).size + t213.size + t214.size + t215.size ≤ 9223372036854775807 then ((r2_Put.f k (IntKind.u64.wrap ((l0_3.length : Int))) 1).bind fun t216 => (if (⟨#[114, 116, 99, 108]⟩ : ByteArray).size + t213.size + t214.size + t215.size + t216.size ≤ 9223372036854775807 then (r6_Put.l0 k (((((⟨#[114, 116, 99, 108]⟩ : ByteArray) ++ t213) ++ t214) ++ t215) ++ t216) 0 a0_0 a0_1 a0_2 l0_3) else (none))) else (none))) else (none))) else (none))) = some (r1, r2) := by rw [if_pos rfl] at H; exact H
  clear H
  have H := H1
  clear H1
  replace H := Option.bind_eq_some_iff.mp H
  obtain ⟨t213, A40, H⟩ := H
  replace H : (if 4 + t213.size ≤ 9223372036854775807 then ((r2_Put.f k (IntKind.u64.wrap (a0_1)) 2).bind fun t214 => (if (⟨#[114, 116, 99, 108]⟩ : ByteArray).size + t213.size + t214.size ≤ 9223372036854775807 then ((r2_Put.f k (IntKind.u64.wrap (a0_2)) 4).bind fun t215 => (if (⟨#[114, 116, 99, 108]⟩ : ByteArray).size + t213.size + t214.size + t215.size ≤ 9223372036854775807 then ((r2_Put.f k (IntKind.u64.wrap ((l0_3.length : Int))) 1).bind fun t216 => (if (⟨#[114, 116, 99, 108]⟩ : ByteArray).size + t213.size + t214.size + t215.size + t216.size ≤ 9223372036854775807 then (r6_Put.l0 k (((((⟨#[114, 116, 99, 108]⟩ : ByteArray) ++ t213) ++ t214) ++ t215) ++ t216) 0 a0_0 a0_1 a0_2 l0_3) else (none))) else (none))) else (none))) else (none)) = some (r1, r2) := H
  have A4 := Ax.mk A40
  clear A40
  by_cases c5 : 4 + t213.size ≤ 9223372036854775807
  ·rw [if_pos c5] at H
   have c5b0 := eq_true c5
   have c5b1 : decide (4 + t213.size ≤ 9223372036854775807) = true := decide_eq_true c5
   try have c5b2 : (9223372036854775807 < 4 + t213.size) = False := eq_false (Nat.not_lt.2 c5)
   replace H := Option.bind_eq_some_iff.mp H
   obtain ⟨t214, A60, H⟩ := H
   replace H : (if (⟨#[114, 116, 99, 108]⟩ : ByteArray).size + t213.size + t214.size ≤ 9223372036854775807 then ((r2_Put.f k (IntKind.u64.wrap (a0_2)) 4).bind fun t215 => (if (⟨#[114, 116, 99, 108]⟩ : ByteArray).size + t213.size + t214.size + t215.size ≤ 9223372036854775807 then ((r2_Put.f k (IntKind.u64.wrap ((l0_3.length : Int))) 1).bind fun t216 => (if (⟨#[114, 116, 99, 108]⟩ : ByteArray).size + t213.size + t214.size + t215.size + t216.size ≤ 9223372036854775807 then (r6_Put.l0 k (((((⟨#[114, 116, 99, 108]⟩ : ByteArray) ++ t213) ++ t214) ++ t215) ++ t216) 0 a0_0 a0_1 a0_2 l0_3) else (none))) else (none))) else (none)) = some (r1, r2) := H
   have A6 := Ax.mk A60
   clear A60
   by_cases c7 : (⟨#[114, 116, 99, 108]⟩ : ByteArray).size + t213.size + t214.size ≤ 9223372036854775807
   ·rw [if_pos c7] at H
    have z7 : (9223372036854775807 < 4 + t213.size + t214.size) = False := eq_false (Nat.not_lt.2 (show 4 + t213.size + t214.size ≤ 9223372036854775807 from c7))
    have c7b0 := eq_true c7
    have c7b1 : decide ((⟨#[114, 116, 99, 108]⟩ : ByteArray).size + t213.size + t214.size ≤ 9223372036854775807) = true := decide_eq_true c7
    try have c7b2 : (9223372036854775807 < (⟨#[114, 116, 99, 108]⟩ : ByteArray).size + t213.size + t214.size) = False := eq_false (Nat.not_lt.2 c7)
    replace H := Option.bind_eq_some_iff.mp H
    obtain ⟨t215, A80, H⟩ := H
    replace H : (if (⟨#[114, 116, 99, 108]⟩ : ByteArray).size + t213.size + t214.size + t215.size ≤ 9223372036854775807 then ((r2_Put.f k (IntKind.u64.wrap ((l0_3.length : Int))) 1).bind fun t216 => (if (⟨#[114, 116, 99, 108]⟩ : ByteArray).size + t213.size + t214.size + t215.size + t216.size ≤ 9223372036854775807 then (r6_Put.l0 k (((((⟨#[114, 116, 99, 108]⟩ : ByteArray) ++ t213) ++ t214) ++ t215) ++ t216) 0 a0_0 a0_1 a0_2 l0_3) else (none))) else (none)) = some (r1, r2) := H
    have A8 := Ax.mk A80
    clear A80
    by_cases c9 : (⟨#[114, 116, 99, 108]⟩ : ByteArray).size + t213.size + t214.size + t215.size ≤ 9223372036854775807
    ·rw [if_pos c9] at H
     have z9 : (9223372036854775807 < 4 + t213.size + t214.size + t215.size) = False := eq_false (Nat.not_lt.2 (show 4 + t213.size + t214.size + t215.size ≤ 9223372036854775807 from c9))
     have c9b0 := eq_true c9
     have c9b1 : decide ((⟨#[114, 116, 99, 108]⟩ : ByteArray).size + t213.size + t214.size + t215.size ≤ 9223372036854775807) = true := decide_eq_true c9
     try have c9b2 : (9223372036854775807 < (⟨#[114, 116, 99, 108]⟩ : ByteArray).size + t213.size + t214.size + t215.size) = False := eq_false (Nat.not_lt.2 c9)
     replace H := Option.bind_eq_some_iff.mp H
     obtain ⟨t216, A100, H⟩ := H
     replace H : (if (⟨#[114, 116, 99, 108]⟩ : ByteArray).size + t213.size + t214.size + t215.size + t216.size ≤ 9223372036854775807 then (r6_Put.l0 k (((((⟨#[114, 116, 99, 108]⟩ : ByteArray) ++ t213) ++ t214) ++ t215) ++ t216) 0 a0_0 a0_1 a0_2 l0_3) else (none)) = some (r1, r2) := H
     have A10 := Ax.mk A100
     clear A100
     by_cases c11 : (⟨#[114, 116, 99, 108]⟩ : ByteArray).size + t213.size + t214.size + t215.size + t216.size ≤ 9223372036854775807
     ·rw [if_pos c11] at H
      have z11 : (9223372036854775807 < 4 + t213.size + t214.size + t215.size + t216.size) = False := eq_false (Nat.not_lt.2 (show 4 + t213.size + t214.size + t215.size + t216.size ≤ 9223372036854775807 from c11))
      have c11b0 := eq_true c11
      have c11b1 : decide ((⟨#[114, 116, 99, 108]⟩ : ByteArray).size + t213.size + t214.size + t215.size + t216.size ≤ 9223372036854775807) = true := decide_eq_true c11
      try have c11b2 : (9223372036854775807 < (⟨#[114, 116, 99, 108]⟩ : ByteArray).size + t213.size + t214.size + t215.size + t216.size) = False := eq_false (Nat.not_lt.2 c11)
      have H' := Ax.mk H
      clear H
      go_enter Tryd.func11, Tryd.ntmps11
      try go_wp2_with (first | ((with_reducible refine gate_dst (N := 1) rfl ?_); refine box_event ?hg (N := 1) ?hd (cs := #[.int .u64 a0_0, .int .i64 a0_1, .int .i64 a0_2, .slice A0_3 l0_3.length c0_3]) (t := 31) ?hr ?_; (case hd => rfl); (case hg => rfl); (case hr => first | (go_simp; done) | (go_simp; rfl)); intro gb211 hg w12 hbox hb; have n0_ := Ax.mk (bP bA hb); have n1_ := Ax.mk (hbox); have n2_ := Ax.mk ((ge_new hg : w.heap.size ≤ gb211)); have n3_ := n2_; clear HB; have HB := n0_; have BK211 := n1_; have GW211 := n2_; have GE211 := n3_; clear n0_ n1_ n2_ n3_; clear hb hbox hg; have hcz13_0 : w12.cell? ⟨gb211, 0, none⟩ = some (.int .u64 a0_0) := (bC BK211.out 0).trans rfl; have hcz13_1 : w12.cell? ⟨gb211, 1, none⟩ = some (.int .i64 a0_1) := (bC BK211.out 1).trans rfl; have hcz13_2 : w12.cell? ⟨gb211, 2, none⟩ = some (.int .i64 a0_2) := (bC BK211.out 2).trans rfl; have hcz13_3 : w12.cell? ⟨gb211, 3, none⟩ = some (.slice A0_3 l0_3.length c0_3) := (bC BK211.out 3).trans rfl; have hfz13_0 := bF BK211.out 0; have hfz13_1 := bF BK211.out 1; have hfz13_2 := bF BK211.out 2; have hfz13_3 := bF BK211.out 3) | ((with_reducible refine gate_callee (f := 14) rfl ?_); refine goesL_ (some 8) rfl rfl Tryd.func14 (by kernel_rfl) rfl #[.agg #[.int .u64 a0_0, .int .i64 a0_1, .int .i64 a0_2, .slice A0_3 l0_3.length c0_3]] rfl (by (try simp only [List.map_toArray, List.map_cons, List.map_nil]); first | done | rfl | (simp only [List.length_drop, List.length_take]; rfl) | (rw [wrap_sum2 (by assumption)]; rfl)) ?_; (with_reducible refine (r6_Right.calls k a0_0 a0_1 a0_2 _ _ l0_3 true _ ?side1 ?side2 A2.out).mono ?_); (case side1 => repeat (first | exact (Kd.C_below HR0_3.out HB.out) | (with_reducible refine Kd.C_alloc ?_ _) | (with_reducible refine Kd.C_drewN ?_ _) | (with_reducible refine Kd.C_drew ?_))); (case side2 => exact HC0_3.out); rintro e w14 ⟨rfl, hb⟩; refine ⟨_, rfl, ?_⟩; have n0_ := Ax.mk (bB (bT BK211.out) hb); have n1_ := Ax.mk (bP bA hb); clear BK211; clear HB; have BK211 := n0_; have HB := n1_; clear n0_ n1_; (try clear hb); (try clear hb2); (try clear hk); (try clear hi)))
      have n0_ := Ax.mk (blk_drew BK211.out)
      have n1_ := Ax.mk (below_drew1 HB.out)
      clear BK211
      clear HB
      have BK211 := n0_
      have HB := n1_
      clear n0_ n1_
      refine start_ (n := 21) (S := fun w' => w'.cell? ⟨gb211, 0, none⟩ = some (.int .u64 a0_0) ∧ w'.cell? ⟨gb211, 1, none⟩ = some (.int .i64 a0_1) ∧ w'.cell? ⟨gb211, 2, none⟩ = some (.int .i64 a0_2) ∧ w'.cell? ⟨gb211, 3, none⟩ = some (.slice A0_3 l0_3.length c0_3)) (ds := []) #[false, false, false, false, false, false, false, false, false, false, false, false, false, false, false, false, false, false, false, false, false] (by kernel_rfl) rfl rfl ⟨(bC BK211.out 0).trans rfl, (bC BK211.out 1).trans rfl, (bC BK211.out 2).trans rfl, (bC BK211.out 3).trans rfl⟩ (fun hHeld => ?_); refine with_tabW r6_Put.tab4 r6_Put.bits4 (fun HT_ HW_ => ?_)
      generalize w14.drew = w15 at BK211 HB hHeld ⊢
      refine pure_ (i := 0) (N := some 11) (v := ?_) (a' := ?_) #[true, false, false, false, false, false, false, false, false, false, false, false, false, false, false, false, false, false, false, false, false] rfl rfl (any_of HT_.out (by kernel_rfl)) (fun _ _ _ h => h) (Or.inl ⟨by rfl, ?_⟩) ?_ ?_
      rotate_left
      ·intro w'
       go_simp
       with_reducible rfl
      rotate_left
      ·simp only [Act.put, setIfInBounds_toArray, set_cons_zero, set_cons_succ, i64_w, i32_w]
       rfl
      refine pure_ (i := 4) (N := some 15) (v := ?_) (a' := ?_) #[true, false, false, false, true, false, false, false, false, false, false, false, false, false, false, false, false, false, false, false, false] rfl rfl (any_of HT_.out (by kernel_rfl)) (fun _ _ _ h => h) (Or.inl ⟨by rfl, ?_⟩) ?_ ?_
      rotate_left
      ·intro w'
       go_simp
       with_reducible rfl
      rotate_left
      ·simp only [Act.put, setIfInBounds_toArray, set_cons_zero, set_cons_succ, i64_w, i32_w]
       rfl
      refine pure_ (i := 9) (N := some 20) (v := ?_) (a' := ?_) #[true, false, false, false, true, false, false, false, false, true, false, false, false, false, false, false, false, false, false, false, false] rfl rfl (any_of HT_.out (by kernel_rfl)) (fun _ _ _ h => h) (Or.inl ⟨by rfl, ?_⟩) ?_ ?_
      rotate_left
      ·intro w'
       go_simp
       with_reducible rfl
      rotate_left
      ·simp only [Act.put, setIfInBounds_toArray, set_cons_zero, set_cons_succ, i64_w, i32_w]
       rfl
      refine pure_ (i := 14) (N := some 25) (v := ?_) (a' := ?_) #[true, false, false, false, true, false, false, false, false, true, false, false, false, false, true, false, false, false, false, false, false] rfl rfl (any_of HT_.out (by kernel_rfl)) (fun _ _ _ h => h) (Or.inl ⟨by rfl, ?_⟩) ?_ ?_
      rotate_left
      ·intro w'
       go_simp
       with_reducible rfl
      rotate_left
      ·simp only [Act.put, setIfInBounds_toArray, set_cons_zero, set_cons_succ, i64_w, i32_w]
       rfl
      refine take_ (i := 1) (N := some 12) (v := ?_) (a' := ?_) #[true, true, false, false, true, false, false, false, false, true, false, false, false, false, true, false, false, false, false, false, false] rfl rfl (take_ofW HT_.out HW_.out (by kernel_rfl)) (fun _ _ _ h => h) (Or.inl ⟨by rfl, ?_⟩) hHeld ?_ ?_
      rotate_left
      ·rintro w' ⟨s0, s1, s2, s3⟩
       go_simp
       with_reducible rfl
      rotate_left
      ·simp only [Act.put, setIfInBounds_toArray, set_cons_zero, set_cons_succ, i64_w, i32_w]
       rfl
      refine take_ (i := 5) (N := some 16) (v := ?_) (a' := ?_) #[true, true, false, false, true, true, false, false, false, true, false, false, false, false, true, false, false, false, false, false, false] rfl rfl (take_ofW HT_.out HW_.out (by kernel_rfl)) (fun _ _ _ h => h) (Or.inl ⟨by rfl, ?_⟩) hHeld ?_ ?_
      rotate_left
      ·rintro w' ⟨s0, s1, s2, s3⟩
       go_simp
       with_reducible rfl
      rotate_left
      ·simp only [Act.put, setIfInBounds_toArray, set_cons_zero, set_cons_succ, i64_w, i32_w]
       rfl
      refine pure_ (i := 6) (N := some 17) (v := ?_) (a' := ?_) #[true, true, false, false, true, true, true, false, false, true, false, false, false, false, true, false, false, false, false, false, false] rfl rfl (any_of HT_.out (by kernel_rfl)) (fun _ _ _ h => h) (Or.inl ⟨by rfl, ?_⟩) ?_ ?_
      rotate_left
      ·intro w'
       go_simp
       with_reducible rfl
      rotate_left
      ·simp only [Act.put, setIfInBounds_toArray, set_cons_zero, set_cons_succ, i64_w, i32_w]
       rfl
      refine take_ (i := 10) (N := some 21) (v := ?_) (a' := ?_) #[true, true, false, false, true, true, true, false, false, true, true, false, false, false, true, false, false, false, false, false, false] rfl rfl (take_ofW HT_.out HW_.out (by kernel_rfl)) (fun _ _ _ h => h) (Or.inl ⟨by rfl, ?_⟩) hHeld ?_ ?_
      rotate_left
      ·rintro w' ⟨s0, s1, s2, s3⟩
       go_simp
       with_reducible rfl
      rotate_left
      ·simp only [Act.put, setIfInBounds_toArray, set_cons_zero, set_cons_succ, i64_w, i32_w]
       rfl
      refine pure_ (i := 11) (N := some 22) (v := ?_) (a' := ?_) #[true, true, false, false, true, true, true, false, false, true, true, true, false, false, true, false, false, false, false, false, false] rfl rfl (any_of HT_.out (by kernel_rfl)) (fun _ _ _ h => h) (Or.inl ⟨by rfl, ?_⟩) ?_ ?_
      rotate_left
      ·intro w'
       go_simp
       with_reducible rfl
      rotate_left
      ·simp only [Act.put, setIfInBounds_toArray, set_cons_zero, set_cons_succ, i64_w, i32_w]
       rfl
      refine take_ (i := 15) (N := some 26) (v := ?_) (a' := ?_) #[true, true, false, false, true, true, true, false, false, true, true, true, false, false, true, true, false, false, false, false, false] rfl rfl (take_ofW HT_.out HW_.out (by kernel_rfl)) (fun _ _ _ h => h) (Or.inl ⟨by rfl, ?_⟩) hHeld ?_ ?_
      rotate_left
      ·rintro w' ⟨s0, s1, s2, s3⟩
       go_simp
       with_reducible rfl
      rotate_left
      ·simp only [Act.put, setIfInBounds_toArray, set_cons_zero, set_cons_succ, i64_w, i32_w]
       rfl
      refine pure_ (i := 16) (N := some 27) (v := ?_) (a' := ?_) #[true, true, false, false, true, true, true, false, false, true, true, true, false, false, true, true, true, false, false, false, false] rfl rfl (any_of HT_.out (by kernel_rfl)) (fun _ _ _ h => h) (Or.inl ⟨by rfl, ?_⟩) ?_ ?_
      rotate_left
      ·intro w'
       go_simp
       with_reducible rfl
      rotate_left
      ·simp only [Act.put, setIfInBounds_toArray, set_cons_zero, set_cons_succ, i64_w, i32_w]
       rfl
      refine pure_ (i := 17) (N := some 28) (v := ?_) (a' := ?_) #[true, true, false, false, true, true, true, false, false, true, true, true, false, false, true, true, true, true, false, false, false] rfl rfl (any_of HT_.out (by kernel_rfl)) (fun _ _ _ h => h) (Or.inl ⟨by rfl, ?_⟩) ?_ ?_
      rotate_left
      ·intro w'
       go_simp
       with_reducible rfl
      rotate_left
      ·simp only [Act.put, setIfInBounds_toArray, set_cons_zero, set_cons_succ, i64_w, i32_w]
       rfl
      refine one_ (i := 2) (N := some 13) #[true, true, true, false, true, true, true, false, false, true, true, true, false, false, true, true, true, true, false, false, false] rfl rfl (one_of HT_.out (by kernel_rfl)) (by decide) (fun K hK => ?_)
      refine goes_ Tryd.func27 (by kernel_rfl) rfl #[.int .u64 a0_0, .int .i64 8] (by rfl) rfl rfl (by (try simp only [List.map_toArray, List.map_cons, List.map_nil]); first | done | rfl | (simp only [List.length_drop, List.length_take]; rfl) | (rw [wrap_sum2 (by assumption)]; rfl)) ?_
      with_reducible refine (r2_Put.calls k a0_0 8 t213 _ A4.out).mono ?_
      rintro e w16 ⟨rfl, hb⟩
      refine ⟨_, rfl, ?_⟩
      have n0_ := Ax.mk (bB (bT BK211.out) hb)
      have n1_ := Ax.mk (bP bA hb)
      clear BK211
      clear HB
      have BK211 := n0_
      have HB := n1_
      clear n0_ n1_
      (try clear hb)
      (try clear hb2)
      (try clear hk)
      (try clear hi)
      refine hK.out _ _ ⟨(bC BK211.out 0).trans rfl, (bC BK211.out 1).trans rfl, (bC BK211.out 2).trans rfl, (bC BK211.out 3).trans rfl⟩ (fun hHeld => ?_)
      clear hK K
      refine norm_ (a' := ?_) ?_ ?_
      rotate_left
      ·show Act.put _ (some 13) _ = _
       simp only [Act.put, setIfInBounds_toArray, set_cons_zero, set_cons_succ, i64_w, i32_w]
       rfl
      refine pure_ (i := 3) (N := some 14) (v := ?_) (a' := ?_) #[true, true, true, true, true, true, true, false, false, true, true, true, false, false, true, true, true, true, false, false, false] rfl rfl (any_of HT_.out (by kernel_rfl)) (fun _ _ _ h => h) (Or.inl ⟨by rfl, ?_⟩) ?_ ?_
      rotate_left
      ·intro w'
       go_simp
       with_reducible rfl
      rotate_left
      ·simp only [Act.put, setIfInBounds_toArray, set_cons_zero, set_cons_succ, i64_w, i32_w]
       rfl
      refine one_ (i := 7) (N := some 18) #[true, true, true, true, true, true, true, true, false, true, true, true, false, false, true, true, true, true, false, false, false] rfl rfl (one_of HT_.out (by kernel_rfl)) (by decide) (fun K hK => ?_)
      refine goes_ Tryd.func27 (by kernel_rfl) rfl #[.int .u64 (IntKind.u64.wrap (a0_1)), .int .i64 2] (by rfl) rfl rfl (by (try simp only [List.map_toArray, List.map_cons, List.map_nil]); first | done | rfl | (simp only [List.length_drop, List.length_take]; rfl) | (rw [wrap_sum2 (by assumption)]; rfl)) ?_
      with_reducible refine (r2_Put.calls k (IntKind.u64.wrap (a0_1)) 2 t214 _ A6.out).mono ?_
      rintro e w17 ⟨rfl, hb⟩
      refine ⟨_, rfl, ?_⟩
      have n0_ := Ax.mk (bB (bT BK211.out) hb)
      have n1_ := Ax.mk (bP bA hb)
      clear BK211
      clear HB
      have BK211 := n0_
      have HB := n1_
      clear n0_ n1_
      (try clear hb)
      (try clear hb2)
      (try clear hk)
      (try clear hi)
      refine hK.out _ _ ⟨(bC BK211.out 0).trans rfl, (bC BK211.out 1).trans rfl, (bC BK211.out 2).trans rfl, (bC BK211.out 3).trans rfl⟩ (fun hHeld => ?_)
      clear hK K
      refine norm_ (a' := ?_) ?_ ?_
      rotate_left
      ·show Act.put _ (some 18) _ = _
       simp only [Act.put, setIfInBounds_toArray, set_cons_zero, set_cons_succ, i64_w, i32_w]
       rfl
      refine pure_ (i := 8) (N := some 19) (v := ?_) (a' := ?_) #[true, true, true, true, true, true, true, true, true, true, true, true, false, false, true, true, true, true, false, false, false] rfl rfl (any_of HT_.out (by kernel_rfl)) (fun _ _ _ h => h) (Or.inl ⟨by rfl, ?_⟩) ?_ ?_
      rotate_left
      ·intro w'
       go_simp
       with_reducible rfl
      rotate_left
      ·simp only [Act.put, setIfInBounds_toArray, set_cons_zero, set_cons_succ, i64_w, i32_w]
       rfl
      refine one_ (i := 12) (N := some 23) #[true, true, true, true, true, true, true, true, true, true, true, true, true, false, true, true, true, true, false, false, false] rfl rfl (one_of HT_.out (by kernel_rfl)) (by decide) (fun K hK => ?_)
      refine goes_ Tryd.func27 (by kernel_rfl) rfl #[.int .u64 (IntKind.u64.wrap (a0_2)), .int .i64 4] (by rfl) rfl rfl (by (try simp only [List.map_toArray, List.map_cons, List.map_nil]); first | done | rfl | (simp only [List.length_drop, List.length_take]; rfl) | (rw [wrap_sum2 (by assumption)]; rfl)) ?_
      with_reducible refine (r2_Put.calls k (IntKind.u64.wrap (a0_2)) 4 t215 _ A8.out).mono ?_
      rintro e w18 ⟨rfl, hb⟩
      refine ⟨_, rfl, ?_⟩
      have n0_ := Ax.mk (bB (bT BK211.out) hb)
      have n1_ := Ax.mk (bP bA hb)
      clear BK211
      clear HB
      have BK211 := n0_
      have HB := n1_
      clear n0_ n1_
      (try clear hb)
      (try clear hb2)
      (try clear hk)
      (try clear hi)
      refine hK.out _ _ ⟨(bC BK211.out 0).trans rfl, (bC BK211.out 1).trans rfl, (bC BK211.out 2).trans rfl, (bC BK211.out 3).trans rfl⟩ (fun hHeld => ?_)
      clear hK K
      refine norm_ (a' := ?_) ?_ ?_
      rotate_left
      ·show Act.put _ (some 23) _ = _
       simp only [Act.put, setIfInBounds_toArray, set_cons_zero, set_cons_succ, i64_w, i32_w]
       rfl
      refine pure_ (i := 13) (N := some 24) (v := ?_) (a' := ?_) #[true, true, true, true, true, true, true, true, true, true, true, true, true, true, true, true, true, true, false, false, false] rfl rfl (any_of HT_.out (by kernel_rfl)) (fun _ _ _ h => h) (Or.inl ⟨by rfl, ?_⟩) ?_ ?_
      rotate_left
      ·intro w'
       go_simp
       with_reducible rfl
      rotate_left
      ·simp only [Act.put, setIfInBounds_toArray, set_cons_zero, set_cons_succ, i64_w, i32_w]
       rfl
      refine one_ (i := 18) (N := some 29) #[true, true, true, true, true, true, true, true, true, true, true, true, true, true, true, true, true, true, true, false, false] rfl rfl (one_of HT_.out (by kernel_rfl)) (by decide) (fun K hK => ?_)
      refine goes_ Tryd.func27 (by kernel_rfl) rfl #[.int .u64 (IntKind.u64.wrap ((l0_3.length : Int))), .int .i64 1] (by rfl) rfl rfl (by (try simp only [List.map_toArray, List.map_cons, List.map_nil]); first | done | rfl | (simp only [List.length_drop, List.length_take]; rfl) | (rw [wrap_sum2 (by assumption)]; rfl)) ?_
      with_reducible refine (r2_Put.calls k (IntKind.u64.wrap ((l0_3.length : Int))) 1 t216 _ A10.out).mono ?_
      rintro e w19 ⟨rfl, hb⟩
      refine ⟨_, rfl, ?_⟩
      have n0_ := Ax.mk (bB (bT BK211.out) hb)
      have n1_ := Ax.mk (bP bA hb)
      clear BK211
      clear HB
      have BK211 := n0_
      have HB := n1_
      clear n0_ n1_
      (try clear hb)
      (try clear hb2)
      (try clear hk)
      (try clear hi)
      refine hK.out _ _ ⟨(bC BK211.out 0).trans rfl, (bC BK211.out 1).trans rfl, (bC BK211.out 2).trans rfl, (bC BK211.out 3).trans rfl⟩ (fun hHeld => ?_)
      clear hK K
      refine norm_ (a' := ?_) ?_ ?_
      rotate_left
      ·show Act.put _ (some 29) _ = _
       simp only [Act.put, setIfInBounds_toArray, set_cons_zero, set_cons_succ, i64_w, i32_w]
       rfl
      refine pure_ (i := 19) (N := some 30) (v := ?_) (a' := ?_) #[true, true, true, true, true, true, true, true, true, true, true, true, true, true, true, true, true, true, true, true, false] rfl rfl (any_of HT_.out (by kernel_rfl)) (fun _ _ _ h => h) (Or.inl ⟨by rfl, ?_⟩) ?_ ?_
      rotate_left
      ·intro w'
       go_simp
       with_reducible rfl
      rotate_left
      ·simp only [Act.put, setIfInBounds_toArray, set_cons_zero, set_cons_succ, i64_w, i32_w]
       rfl
      refine pure_ (i := 20) (N := some 5) (v := ?_) (a' := ?_) #[true, true, true, true, true, true, true, true, true, true, true, true, true, true, true, true, true, true, true, true, true] rfl rfl (any_of HT_.out (by kernel_rfl)) (fun _ _ _ h => h) (Or.inl ⟨by rfl, ?_⟩) ?_ ?_
      rotate_left
      ·intro w'
       go_simp
       with_reducible rfl
      rotate_left
      ·simp only [Act.put, setIfInBounds_toArray, set_cons_zero, set_cons_succ, i64_w, i32_w]
       rfl
      refine done_ (done_of HT_.out (by kernel_rfl)) ?_
      try go_wp2
      go_loopg [5, 6] k (fun kq v5 v6 w' => ∃ (x5_1 : ByteArray) (x6_1 : Int), v5 = .string x5_1 ∧ v6 = .int .i64 x6_1 ∧ Ax (r6_Put.l0 kq x5_1 x6_1 a0_0 a0_1 a0_2 l0_3 = some (r1, r2)) ∧ Ax (kq ≤ k) ∧ Ax (w'.heap[gb211]? = some (.cells #[.int .u64 a0_0, .int .i64 a0_1, .int .i64 a0_2, (.slice A0_3 l0_3.length c0_3)] 31 (0, 0))) ∧ Ax (Below w.heap.size w w'))
      case atStart => exact ⟨(((((⟨#[114, 116, 99, 108]⟩ : ByteArray) ++ t213) ++ t214) ++ t215) ++ t216), (0), (by first | rfl | (simp; done) | (simp [*]; done)), (by first | rfl | (simp; done) | (simp [*]; done)), H', ⟨Nat.le_refl _⟩, ⟨by refine bT ?_; exact BK211.out⟩, ⟨bA⟩⟩
      case round =>
       clear H'
       try clear c1
       try clear c2
       try clear p2
       try clear c3
       try clear c5
       try clear c5b0
       try clear c5b1
       try clear c5b2
       try clear c7
       try clear c7b0
       try clear c7b1
       try clear c7b2
       try clear c9
       try clear c9b0
       try clear c9b1
       try clear c9b2
       try clear c11
       try clear c11b0
       try clear c11b1
       try clear c11b2
       try clear c14
       try clear hcz13_0
       try clear hcz13_1
       try clear hcz13_2
       try clear hcz13_3
       try clear hfz13_0
       try clear hfz13_1
       try clear hfz13_2
       try clear hfz13_3
       obtain ⟨x5_1, x6_1, rfl, rfl, HA, HK1, BK211, HB⟩ := hrel
       cases gk with
       | zero => exact absurd HA.out (by simp [r6_Put.l0])
       | succ k1 =>
        have H := HA.out
        clear HA
        simp only [r6_Put.l0] at H
        by_cases c20 : x6_1 < (l0_3.length : Int)
        ·rw [if_pos c20] at H
         have c20b0 : decide (x6_1 < (l0_3.length : Int)) = true := decide_eq_true c20
         clear c20
         by_cases c21 : 0 ≤ x6_1
         ·rw [if_pos c21] at H
          have c21b0 : decide (0 ≤ x6_1) = true := decide_eq_true c21
          clear c21
          replace H := Option.bind_eq_some_iff.mp H
          obtain ⟨t218, A220, H⟩ := H
          replace H : (if x5_1.size + t218.size ≤ 9223372036854775807 then ((r2_Put.f k1 (IntKind.u64.wrap ((rd_T53 l0_3 x6_1).f1)) 2).bind fun t220 => (if x5_1.size + t218.size + t220.size ≤ 9223372036854775807 then (r6_Put.l0 k1 ((x5_1 ++ t218) ++ t220) (wrap64 (x6_1 + 1)) a0_0 a0_1 a0_2 l0_3) else (none))) else (none)) = some (r1, r2) := H
          have A22 := Ax.mk A220
          clear A220
          by_cases c23 : x5_1.size + t218.size ≤ 9223372036854775807
          ·rw [if_pos c23] at H
           have c23b0 := eq_true c23
           have c23b1 : decide (x5_1.size + t218.size ≤ 9223372036854775807) = true := decide_eq_true c23
           try have c23b2 : (9223372036854775807 < x5_1.size + t218.size) = False := eq_false (Nat.not_lt.2 c23)
           replace H := Option.bind_eq_some_iff.mp H
           obtain ⟨t220, A240, H⟩ := H
           replace H : (if x5_1.size + t218.size + t220.size ≤ 9223372036854775807 then (r6_Put.l0 k1 ((x5_1 ++ t218) ++ t220) (wrap64 (x6_1 + 1)) a0_0 a0_1 a0_2 l0_3) else (none)) = some (r1, r2) := H
           have A24 := Ax.mk A240
           clear A240
           by_cases c25 : x5_1.size + t218.size + t220.size ≤ 9223372036854775807
           ·rw [if_pos c25] at H
            have c25b0 := eq_true c25
            have c25b1 : decide (x5_1.size + t218.size + t220.size ≤ 9223372036854775807) = true := decide_eq_true c25
            try have c25b2 : (9223372036854775807 < x5_1.size + t218.size + t220.size) = False := eq_false (Nat.not_lt.2 c25)
            have H' := Ax.mk H
            clear H
            have hcz26_0 : wr.cell? ⟨gb211, 0, none⟩ = some (.int .u64 a0_0) := (bC BK211.out 0).trans rfl
            have hcz26_1 : wr.cell? ⟨gb211, 1, none⟩ = some (.int .i64 a0_1) := (bC BK211.out 1).trans rfl
            have hcz26_2 : wr.cell? ⟨gb211, 2, none⟩ = some (.int .i64 a0_2) := (bC BK211.out 2).trans rfl
            have hcz26_3 : wr.cell? ⟨gb211, 3, none⟩ = some (.slice A0_3 l0_3.length c0_3) := (bC BK211.out 3).trans rfl
            have hfz26_0 := bF BK211.out 0
            have hfz26_1 := bF BK211.out 1
            have hfz26_2 := bF BK211.out 2
            have hfz26_3 := bF BK211.out 3
            try go_wp2
            have n0_ := Ax.mk (blk_drew BK211.out)
            have n1_ := Ax.mk (below_drew1 HB.out)
            clear BK211
            clear HB
            have BK211 := n0_
            have HB := n1_
            clear n0_ n1_
            have p217 : 0 ≤ (x6_1 : Int) := of_decide_eq_true (by first | (with_reducible assumption) | assumption)
            have q217 : x6_1 < (l0_3.length : Int) := of_decide_eq_true (by first | (with_reducible assumption) | assumption)
            obtain ⟨ad217, e217, hx217_0, hx217_1⟩ := at_T53 HR0_3.out x6_1 p217 q217
            have hw217_1 := hx217_1
            have hw217_0 := hx217_0
            cases e217
            replace hx217_0 := (HB.out.cell (World.block_lt_of_cell? w _ hx217_0)).trans hx217_0
            replace hx217_1 := (HB.out.cell (World.block_lt_of_cell? w _ hx217_1)).trans hx217_1
            replace p217 := eq_true p217
            replace q217 := eq_true q217
            have p219 : 0 ≤ (x6_1 : Int) := of_decide_eq_true (by first | (with_reducible assumption) | assumption)
            have q219 : x6_1 < (l0_3.length : Int) := of_decide_eq_true (by first | (with_reducible assumption) | assumption)
            obtain ⟨ad219, e219, hx219_0, hx219_1⟩ := at_T53 HR0_3.out x6_1 p219 q219
            have hw219_1 := hx219_1
            have hw219_0 := hx219_0
            obtain rfl : ad217 = ad219 := (by injection e219)
            replace hx219_0 := (HB.out.cell (World.block_lt_of_cell? w _ hx219_0)).trans hx219_0
            replace hx219_1 := (HB.out.cell (World.block_lt_of_cell? w _ hx219_1)).trans hx219_1
            replace p219 := eq_true p219
            replace q219 := eq_true q219
            refine start_ (n := 20) (S := fun w' => w'.cell? ⟨gb211, 0, none⟩ = some (.int .u64 a0_0) ∧ w'.cell? ⟨gb211, 1, none⟩ = some (.int .i64 a0_1) ∧ w'.cell? ⟨gb211, 2, none⟩ = some (.int .i64 a0_2) ∧ w'.cell? ⟨gb211, 3, none⟩ = some (.slice (some ad217) l0_3.length c0_3) ∧ w'.cell? (ad217.add ((x6_1).toNat * 2)) = some (.int .i64 ((rd_T53 l0_3 x6_1).f0)) ∧ w'.cell? ⟨(ad217.add ((x6_1).toNat * 2)).block, (ad217.add ((x6_1).toNat * 2)).off + 1, none⟩ = some (.int .i64 ((rd_T53 l0_3 x6_1).f1)) ∧ w'.cell? (ad217.add ((x6_1).toNat * 2)) = some (.int .i64 ((rd_T53 l0_3 x6_1).f0)) ∧ w'.cell? ⟨(ad217.add ((x6_1).toNat * 2)).block, (ad217.add ((x6_1).toNat * 2)).off + 1, none⟩ = some (.int .i64 ((rd_T53 l0_3 x6_1).f1))) (ds := []) #[false, false, false, false, false, false, false, false, false, false, false, false, false, false, false, false, false, false, false, false] (by kernel_rfl) rfl rfl ⟨(bC BK211.out 0).trans rfl, (bC BK211.out 1).trans rfl, (bC BK211.out 2).trans rfl, (bC BK211.out 3).trans rfl, ((HB.out.cell (World.block_lt_of_cell? w _ hw217_0)).trans hw217_0), ((HB.out.cell (World.block_lt_of_cell? w _ hw217_1)).trans hw217_1), ((HB.out.cell (World.block_lt_of_cell? w _ hw219_0)).trans hw219_0), ((HB.out.cell (World.block_lt_of_cell? w _ hw219_1)).trans hw219_1)⟩ (fun hHeld => ?_); refine with_tabW r6_Put.tab8 r6_Put.bits8 (fun HT_ HW_ => ?_)
            generalize wr.drew = w27 at BK211 HB hx217_0 hx217_1 hx219_0 hx219_1 hHeld ⊢
            refine pure_ (i := 0) (N := some 38) (v := ?_) (a' := ?_) #[true, false, false, false, false, false, false, false, false, false, false, false, false, false, false, false, false, false, false, false] rfl rfl (any_of HT_.out (by kernel_rfl)) (fun _ _ _ h => h) (Or.inl ⟨by rfl, ?_⟩) ?_ ?_
            rotate_left
            ·intro w'
             go_simp
             with_reducible rfl
            rotate_left
            ·simp only [Act.put, setIfInBounds_toArray, set_cons_zero, set_cons_succ, i64_w, i32_w]
             rfl
            refine pure_ (i := 1) (N := some 39) (v := ?_) (a' := ?_) #[true, true, false, false, false, false, false, false, false, false, false, false, false, false, false, false, false, false, false, false] rfl rfl (any_of HT_.out (by kernel_rfl)) (fun _ _ _ h => h) (Or.inl ⟨by rfl, ?_⟩) ?_ ?_
            rotate_left
            ·intro w'
             go_simp
             with_reducible rfl
            rotate_left
            ·simp only [Act.put, setIfInBounds_toArray, set_cons_zero, set_cons_succ, i64_w, i32_w]
             rfl
            refine pure_ (i := 3) (N := some 41) (v := ?_) (a' := ?_) #[true, true, false, true, false, false, false, false, false, false, false, false, false, false, false, false, false, false, false, false] rfl rfl (any_of HT_.out (by kernel_rfl)) (fun _ _ _ h => h) (Or.inl ⟨by rfl, ?_⟩) ?_ ?_
            rotate_left
            ·intro w'
             go_simp
             with_reducible rfl
            rotate_left
            ·simp only [Act.put, setIfInBounds_toArray, set_cons_zero, set_cons_succ, i64_w, i32_w]
             rfl
            refine pure_ (i := 10) (N := some 48) (v := ?_) (a' := ?_) #[true, true, false, true, false, false, false, false, false, false, true, false, false, false, false, false, false, false, false, false] rfl rfl (any_of HT_.out (by kernel_rfl)) (fun _ _ _ h => h) (Or.inl ⟨by rfl, ?_⟩) ?_ ?_
            rotate_left
            ·intro w'
             go_simp
             with_reducible rfl
            rotate_left
            ·simp only [Act.put, setIfInBounds_toArray, set_cons_zero, set_cons_succ, i64_w, i32_w]
             rfl
            refine pure_ (i := 12) (N := some 50) (v := ?_) (a' := ?_) #[true, true, false, true, false, false, false, false, false, false, true, false, true, false, false, false, false, false, false, false] rfl rfl (any_of HT_.out (by kernel_rfl)) (fun _ _ _ h => h) (Or.inl ⟨by rfl, ?_⟩) ?_ ?_
            rotate_left
            ·intro w'
             go_simp
             with_reducible rfl
            rotate_left
            ·simp only [Act.put, setIfInBounds_toArray, set_cons_zero, set_cons_succ, i64_w, i32_w]
             rfl
            refine take_ (i := 2) (N := some 40) (v := ?_) (a' := ?_) #[true, true, true, true, false, false, false, false, false, false, true, false, true, false, false, false, false, false, false, false] rfl rfl (take_ofW HT_.out HW_.out (by kernel_rfl)) (fun _ _ _ h => h) (Or.inl ⟨by rfl, ?_⟩) hHeld ?_ ?_
            rotate_left
            ·rintro w' ⟨s0, s1, s2, s3, s4, s5, s6, s7⟩
             go_simp
             with_reducible rfl
            rotate_left
            ·simp only [Act.put, setIfInBounds_toArray, set_cons_zero, set_cons_succ, i64_w, i32_w]
             rfl
            refine pure_ (i := 4) (N := some 42) (v := ?_) (a' := ?_) #[true, true, true, true, true, false, false, false, false, false, true, false, true, false, false, false, false, false, false, false] rfl rfl (any_of HT_.out (by kernel_rfl)) (fun _ _ _ h => h) (Or.inl ⟨by rfl, ?_⟩) ?_ ?_
            rotate_left
            ·intro w'
             go_simp
             with_reducible rfl
            rotate_left
            ·simp only [Act.put, setIfInBounds_toArray, set_cons_zero, set_cons_succ, i64_w, i32_w]
             rfl
            refine pure_ (i := 5) (N := some 43) (v := ?_) (a' := ?_) #[true, true, true, true, true, true, false, false, false, false, true, false, true, false, false, false, false, false, false, false] rfl rfl (any_of HT_.out (by kernel_rfl)) (fun _ _ _ h => h) (Or.inl ⟨by rfl, ?_⟩) ?_ ?_
            rotate_left
            ·intro w'
             go_simp
             with_reducible rfl
            rotate_left
            ·simp only [Act.put, setIfInBounds_toArray, set_cons_zero, set_cons_succ, i64_w, i32_w]
             rfl
            refine take_ (i := 6) (N := some 44) (v := ?_) (a' := ?_) #[true, true, true, true, true, true, true, false, false, false, true, false, true, false, false, false, false, false, false, false] rfl rfl (take_ofW HT_.out HW_.out (by kernel_rfl)) (fun _ _ _ h => h) (Or.inl ⟨by rfl, ?_⟩) hHeld ?_ ?_
            rotate_left
            ·rintro w' ⟨s0, s1, s2, s3, s4, s5, s6, s7⟩
             go_simp
             with_reducible rfl
            rotate_left
            ·simp only [Act.put, setIfInBounds_toArray, set_cons_zero, set_cons_succ, i64_w, i32_w]
             rfl
            refine pure_ (i := 7) (N := some 45) (v := ?_) (a' := ?_) #[true, true, true, true, true, true, true, true, false, false, true, false, true, false, false, false, false, false, false, false] rfl rfl (any_of HT_.out (by kernel_rfl)) (fun _ _ _ h => h) (Or.inl ⟨by rfl, ?_⟩) ?_ ?_
            rotate_left
            ·intro w'
             go_simp
             with_reducible rfl
            rotate_left
            ·simp only [Act.put, setIfInBounds_toArray, set_cons_zero, set_cons_succ, i64_w, i32_w]
             rfl
            refine take_ (i := 11) (N := some 49) (v := ?_) (a' := ?_) #[true, true, true, true, true, true, true, true, false, false, true, true, true, false, false, false, false, false, false, false] rfl rfl (take_ofW HT_.out HW_.out (by kernel_rfl)) (fun _ _ _ h => h) (Or.inl ⟨by rfl, ?_⟩) hHeld ?_ ?_
            rotate_left
            ·rintro w' ⟨s0, s1, s2, s3, s4, s5, s6, s7⟩
             go_simp
             with_reducible rfl
            rotate_left
            ·simp only [Act.put, setIfInBounds_toArray, set_cons_zero, set_cons_succ, i64_w, i32_w]
             rfl
            refine pure_ (i := 13) (N := some 51) (v := ?_) (a' := ?_) #[true, true, true, true, true, true, true, true, false, false, true, true, true, true, false, false, false, false, false, false] rfl rfl (any_of HT_.out (by kernel_rfl)) (fun _ _ _ h => h) (Or.inl ⟨by rfl, ?_⟩) ?_ ?_
            rotate_left
            ·intro w'
             go_simp
             with_reducible rfl
            rotate_left
            ·simp only [Act.put, setIfInBounds_toArray, set_cons_zero, set_cons_succ, i64_w, i32_w]
             rfl
            refine pure_ (i := 14) (N := some 52) (v := ?_) (a' := ?_) #[true, true, true, true, true, true, true, true, false, false, true, true, true, true, true, false, false, false, false, false] rfl rfl (any_of HT_.out (by kernel_rfl)) (fun _ _ _ h => h) (Or.inl ⟨by rfl, ?_⟩) ?_ ?_
            rotate_left
            ·intro w'
             go_simp
             with_reducible rfl
            rotate_left
            ·simp only [Act.put, setIfInBounds_toArray, set_cons_zero, set_cons_succ, i64_w, i32_w]
             rfl
            refine take_ (i := 15) (N := some 53) (v := ?_) (a' := ?_) #[true, true, true, true, true, true, true, true, false, false, true, true, true, true, true, true, false, false, false, false] rfl rfl (take_ofW HT_.out HW_.out (by kernel_rfl)) (fun _ _ _ h => h) (Or.inl ⟨by rfl, ?_⟩) hHeld ?_ ?_
            rotate_left
            ·rintro w' ⟨s0, s1, s2, s3, s4, s5, s6, s7⟩
             go_simp
             with_reducible rfl
            rotate_left
            ·simp only [Act.put, setIfInBounds_toArray, set_cons_zero, set_cons_succ, i64_w, i32_w]
             rfl
            refine pure_ (i := 16) (N := some 54) (v := ?_) (a' := ?_) #[true, true, true, true, true, true, true, true, false, false, true, true, true, true, true, true, true, false, false, false] rfl rfl (any_of HT_.out (by kernel_rfl)) (fun _ _ _ h => h) (Or.inl ⟨by rfl, ?_⟩) ?_ ?_
            rotate_left
            ·intro w'
             go_simp
             with_reducible rfl
            rotate_left
            ·simp only [Act.put, setIfInBounds_toArray, set_cons_zero, set_cons_succ, i64_w, i32_w]
             rfl
            refine one_ (i := 8) (N := some 46) #[true, true, true, true, true, true, true, true, true, false, true, true, true, true, true, true, true, false, false, false] rfl rfl (one_of HT_.out (by kernel_rfl)) (by decide) (fun K hK => ?_)
            refine goes_ Tryd.func27 (by kernel_rfl) rfl #[.int .u64 (IntKind.u64.wrap ((rd_T53 l0_3 x6_1).f0)), .int .i64 2] (by rfl) rfl rfl (by (try simp only [List.map_toArray, List.map_cons, List.map_nil]); first | done | rfl | (simp only [List.length_drop, List.length_take]; rfl) | (rw [wrap_sum2 (by assumption)]; rfl)) ?_
            with_reducible refine (r2_Put.calls k1 (IntKind.u64.wrap ((rd_T53 l0_3 x6_1).f0)) 2 t218 _ A22.out).mono ?_
            rintro e w28 ⟨rfl, hb⟩
            refine ⟨_, rfl, ?_⟩
            have n0_ := Ax.mk (bB (bT BK211.out) hb)
            have n1_ := Ax.mk (bP bA hb)
            clear BK211
            clear HB
            have BK211 := n0_
            have HB := n1_
            clear n0_ n1_
            (try clear hb)
            (try clear hb2)
            (try clear hk)
            (try clear hi)
            refine hK.out _ _ ⟨(bC BK211.out 0).trans rfl, (bC BK211.out 1).trans rfl, (bC BK211.out 2).trans rfl, (bC BK211.out 3).trans rfl, ((HB.out.cell (World.block_lt_of_cell? w _ hw217_0)).trans hw217_0), ((HB.out.cell (World.block_lt_of_cell? w _ hw217_1)).trans hw217_1), ((HB.out.cell (World.block_lt_of_cell? w _ hw219_0)).trans hw219_0), ((HB.out.cell (World.block_lt_of_cell? w _ hw219_1)).trans hw219_1)⟩ (fun hHeld => ?_)
            clear hK K
            refine norm_ (a' := ?_) ?_ ?_
            rotate_left
            ·show Act.put _ (some 46) _ = _
             simp only [Act.put, setIfInBounds_toArray, set_cons_zero, set_cons_succ, i64_w, i32_w]
             rfl
            refine pure_ (i := 9) (N := some 47) (v := ?_) (a' := ?_) #[true, true, true, true, true, true, true, true, true, true, true, true, true, true, true, true, true, false, false, false] rfl rfl (any_of HT_.out (by kernel_rfl)) (fun _ _ _ h => h) (Or.inl ⟨by rfl, ?_⟩) ?_ ?_
            rotate_left
            ·intro w'
             go_simp
             with_reducible rfl
            rotate_left
            ·simp only [Act.put, setIfInBounds_toArray, set_cons_zero, set_cons_succ, i64_w, i32_w]
             rfl
            refine one_ (i := 17) (N := some 55) #[true, true, true, true, true, true, true, true, true, true, true, true, true, true, true, true, true, true, false, false] rfl rfl (one_of HT_.out (by kernel_rfl)) (by decide) (fun K hK => ?_)
            refine goes_ Tryd.func27 (by kernel_rfl) rfl #[.int .u64 (IntKind.u64.wrap ((rd_T53 l0_3 x6_1).f1)), .int .i64 2] (by rfl) rfl rfl (by (try simp only [List.map_toArray, List.map_cons, List.map_nil]); first | done | rfl | (simp only [List.length_drop, List.length_take]; rfl) | (rw [wrap_sum2 (by assumption)]; rfl)) ?_
            with_reducible refine (r2_Put.calls k1 (IntKind.u64.wrap ((rd_T53 l0_3 x6_1).f1)) 2 t220 _ A24.out).mono ?_
            rintro e w29 ⟨rfl, hb⟩
            refine ⟨_, rfl, ?_⟩
            have n0_ := Ax.mk (bB (bT BK211.out) hb)
            have n1_ := Ax.mk (bP bA hb)
            clear BK211
            clear HB
            have BK211 := n0_
            have HB := n1_
            clear n0_ n1_
            (try clear hb)
            (try clear hb2)
            (try clear hk)
            (try clear hi)
            refine hK.out _ _ ⟨(bC BK211.out 0).trans rfl, (bC BK211.out 1).trans rfl, (bC BK211.out 2).trans rfl, (bC BK211.out 3).trans rfl, ((HB.out.cell (World.block_lt_of_cell? w _ hw217_0)).trans hw217_0), ((HB.out.cell (World.block_lt_of_cell? w _ hw217_1)).trans hw217_1), ((HB.out.cell (World.block_lt_of_cell? w _ hw219_0)).trans hw219_0), ((HB.out.cell (World.block_lt_of_cell? w _ hw219_1)).trans hw219_1)⟩ (fun hHeld => ?_)
            clear hK K
            refine norm_ (a' := ?_) ?_ ?_
            rotate_left
            ·show Act.put _ (some 55) _ = _
             simp only [Act.put, setIfInBounds_toArray, set_cons_zero, set_cons_succ, i64_w, i32_w]
             rfl
            refine pure_ (i := 18) (N := some 56) (v := ?_) (a' := ?_) #[true, true, true, true, true, true, true, true, true, true, true, true, true, true, true, true, true, true, true, false] rfl rfl (any_of HT_.out (by kernel_rfl)) (fun _ _ _ h => h) (Or.inl ⟨by rfl, ?_⟩) ?_ ?_
            rotate_left
            ·intro w'
             go_simp
             with_reducible rfl
            rotate_left
            ·simp only [Act.put, setIfInBounds_toArray, set_cons_zero, set_cons_succ, i64_w, i32_w]
             rfl
            refine pure_ (i := 19) (N := some 5) (v := ?_) (a' := ?_) #[true, true, true, true, true, true, true, true, true, true, true, true, true, true, true, true, true, true, true, true] rfl rfl (any_of HT_.out (by kernel_rfl)) (fun _ _ _ h => h) (Or.inl ⟨by rfl, ?_⟩) ?_ ?_
            rotate_left
            ·intro w'
             go_simp
             with_reducible rfl
            rotate_left
            ·simp only [Act.put, setIfInBounds_toArray, set_cons_zero, set_cons_succ, i64_w, i32_w]
             rfl
            refine done_ (done_of HT_.out (by kernel_rfl)) ?_
            try go_wp2
            go_roundg k1
            case measure => have := HK1.out; omega
            case rel => exact ⟨((x5_1 ++ t218) ++ t220), (wrap64 (x6_1 + 1)), (by first | rfl | (simp; done) | (simp [*]; done)), (by first | rfl | (simp; done) | (simp [*]; done)), H', ⟨by have := HK1.out; omega⟩, ⟨by refine bT ?_; exact BK211.out⟩, ⟨bA⟩⟩
           ·rw [if_neg c25] at H
            exact absurd H (by simp)
          ·rw [if_neg c23] at H
           exact absurd H (by simp)
         ·rw [if_neg c21] at H
          exact absurd H (by simp)
        ·rw [if_neg c20] at H
         have c20b0 : decide (x6_1 < (l0_3.length : Int)) = false := decide_eq_false c20
         clear c20
         have H' := Ax.mk H
         clear H
         have hcz30_0 : wr.cell? ⟨gb211, 0, none⟩ = some (.int .u64 a0_0) := (bC BK211.out 0).trans rfl
         have hcz30_1 : wr.cell? ⟨gb211, 1, none⟩ = some (.int .i64 a0_1) := (bC BK211.out 1).trans rfl
         have hcz30_2 : wr.cell? ⟨gb211, 2, none⟩ = some (.int .i64 a0_2) := (bC BK211.out 2).trans rfl
         have hcz30_3 : wr.cell? ⟨gb211, 3, none⟩ = some (.slice A0_3 l0_3.length c0_3) := (bC BK211.out 3).trans rfl
         have hfz30_0 := bF BK211.out 0
         have hfz30_1 := bF BK211.out 1
         have hfz30_2 := bF BK211.out 2
         have hfz30_3 := bF BK211.out 3
         go_wp2
         go_loopg [5] k1 (fun kq v5 w' => ∃ (x5_2 : ByteArray), v5 = .string x5_2 ∧ Ax (r6_Put.l1 kq x5_2 = some (r1, r2)) ∧ Ax (kq ≤ k1) ∧ Ax (w'.heap[gb211]? = some (.cells #[.int .u64 a0_0, .int .i64 a0_1, .int .i64 a0_2, (.slice A0_3 l0_3.length c0_3)] 31 (0, 0))) ∧ Ax (Below w.heap.size w w'))
         case atStart => exact ⟨(x5_1), (by first | rfl | (simp; done) | (simp [*]; done)), H', ⟨Nat.le_refl _⟩, ⟨by refine bT ?_; exact BK211.out⟩, ⟨bA⟩⟩
         case round =>
          clear H'
          try clear c1
          try clear c2
          try clear p2
          try clear q2
          try clear hx2
          try clear c3
          try clear c5
          try clear c5b0
          try clear c5b1
          try clear c5b2
          try clear p6
          try clear c7
          try clear c7b0
          try clear c7b1
          try clear c7b2
          try clear c9
          try clear c9b0
          try clear c9b1
          try clear c9b2
          try clear c11
          try clear c11b0
          try clear c11b1
          try clear c11b2
          try clear c14
          try clear c20
          try clear c20b0
          try clear c21
          try clear c21b0
          try clear p21
          try clear q21
          try clear hx21
          try clear c23
          try clear c23b0
          try clear c23b1
          try clear c23b2
          try clear c25
          try clear c25b0
          try clear c25b1
          try clear c25b2
          try clear c27
          try clear hcz13_0
          try clear hcz13_1
          try clear hcz13_2
          try clear hcz13_3
          try clear hcz26_0
          try clear hcz26_1
          try clear hcz26_2
          try clear hcz26_3
          try clear hcz30_0
          try clear hcz30_1
          try clear hcz30_2
          try clear hcz30_3
          try clear hfz13_0
          try clear hfz13_1
          try clear hfz13_2
          try clear hfz13_3
          try clear hfz26_0
          try clear hfz26_1
          try clear hfz26_2
          try clear hfz26_3
          try clear hfz30_0
          try clear hfz30_1
          try clear hfz30_2
          try clear hfz30_3
          try clear hx217_0
          try clear hx217_1
          try clear hx219_0
          try clear hx219_1
          try clear p2
          try clear p217
          try clear p219
          try clear q217
          try clear q219
          obtain ⟨x5_2, rfl, HA, HK2, BK211, HB⟩ := hrel
          cases gk with
          | zero => exact absurd HA.out (by simp [r6_Put.l1])
          | succ k2 =>
           have H := HA.out
           clear HA
           simp only [r6_Put.l1] at H
           by_cases c31 : (x5_2.size : Int) < 60
           ·rw [if_pos c31] at H
            have c31b0 : decide ((x5_2.size : Int) < 60) = true := decide_eq_true c31
            have c31b1 : decide (x5_2.size < 60) = true := decide_eq_true (by omega)
            clear c31
            by_cases c32 : x5_2.size + 1 ≤ 9223372036854775807
            ·rw [if_pos c32] at H
             have c32b0 := eq_true c32
             have c32b1 : decide (x5_2.size + 1 ≤ 9223372036854775807) = true := decide_eq_true c32
             try have c32b2 : (9223372036854775807 < x5_2.size + 1) = False := eq_false (Nat.not_lt.2 c32)
             have H' := Ax.mk H
             clear H
             go_wp2
             go_roundg k2
             case measure => have := HK1.out; have := HK2.out; omega
             case rel => exact ⟨(x5_2 ++ (⟨#[0]⟩ : ByteArray)), (by first | rfl | (simp; done) | (simp [*]; done)), H', ⟨by have := HK1.out; have := HK2.out; omega⟩, ⟨by refine bT ?_; exact BK211.out⟩, ⟨bA⟩⟩
            ·rw [if_neg c32] at H
             exact absurd H (by simp)
           ·rw [if_neg c31] at H
            have c31b0 : decide ((x5_2.size : Int) < 60) = false := decide_eq_false c31
            have c31b1 : decide (x5_2.size < 60) = false := decide_eq_false (by omega)
            clear c31
            replace H := Option.bind_eq_some_iff.mp H
            obtain ⟨t221, A330, H⟩ := H
            replace H : (some (t221, 0)) = some (r1, r2) := H
            have A33 := Ax.mk A330
            clear A330
            simp only [Option.some.injEq, Prod.mk.injEq] at H
            obtain ⟨rfl, rfl⟩ := H
            go_wp2_with (first | ((with_reducible refine gate_callee (f := 15) rfl ?_); refine goesL_ (some 63) rfl rfl Tryd.func15 (by kernel_rfl) rfl #[.string x5_2] rfl (by (try simp only [List.map_toArray, List.map_cons, List.map_nil]); first | done | rfl | (simp only [List.length_drop, List.length_take]; rfl) | (rw [wrap_sum2 (by assumption)]; rfl)) ?_; (with_reducible refine (r3_Put.calls k2 x5_2 t221 _ A33.out).mono ?_); rintro e w34 ⟨rfl, hb⟩; refine ⟨_, rfl, ?_⟩; have n0_ := Ax.mk (bB (bT BK211.out) hb); have n1_ := Ax.mk (bP bA hb); clear BK211; clear HB; have BK211 := n0_; have HB := n1_; clear n0_ n1_; (try clear hb); (try clear hb2); (try clear hk); (try clear hi)))
            go_ret2
            exact ⟨by first | rfl | (simp [errW_none, errW_some] <;> rfl) | (simp [*, errW_none, errW_some] <;> rfl), bA⟩
     ·rw [if_neg c11] at H
      exact absurd H (by simp)
    ·rw [if_neg c9] at H
     exact absurd H (by simp)
   ·rw [if_neg c7] at H
    exact absurd H (by simp)
  ·rw [if_neg c5] at H
   exact absurd H (by simp)
 ·replace c3 := Bool.eq_false_iff.mpr c3
  subst c3
  have H1 : (some ((⟨#[]⟩ : ByteArray), 1)) = some (r1, r2) := by rw [if_neg (show ¬ (false = true) by decide)] at H; exact H
  clear H
  have H := H1
  clear H1
  simp only [Option.some.injEq, Prod.mk.injEq] at H
  obtain ⟨rfl, rfl⟩ := H
  go_enter Tryd.func11, Tryd.ntmps11
  go_wp2_with (first | ((with_reducible refine gate_dst (N := 1) rfl ?_); refine box_event ?hg (N := 1) ?hd (cs := #[.int .u64 a0_0, .int .i64 a0_1, .int .i64 a0_2, .slice A0_3 l0_3.length c0_3]) (t := 31) ?hr ?_; (case hd => rfl); (case hg => rfl); (case hr => first | (go_simp; done) | (go_simp; rfl)); intro gb211 hg w35 hbox hb; have n0_ := Ax.mk (bP bA hb); have n1_ := Ax.mk (hbox); have n2_ := Ax.mk ((ge_new hg : w.heap.size ≤ gb211)); have n3_ := n2_; clear HB; have HB := n0_; have BK211 := n1_; have GW211 := n2_; have GE211 := n3_; clear n0_ n1_ n2_ n3_; clear hb hbox hg; have hcz36_0 : w35.cell? ⟨gb211, 0, none⟩ = some (.int .u64 a0_0) := (bC BK211.out 0).trans rfl; have hcz36_1 : w35.cell? ⟨gb211, 1, none⟩ = some (.int .i64 a0_1) := (bC BK211.out 1).trans rfl; have hcz36_2 : w35.cell? ⟨gb211, 2, none⟩ = some (.int .i64 a0_2) := (bC BK211.out 2).trans rfl; have hcz36_3 : w35.cell? ⟨gb211, 3, none⟩ = some (.slice A0_3 l0_3.length c0_3) := (bC BK211.out 3).trans rfl; have hfz36_0 := bF BK211.out 0; have hfz36_1 := bF BK211.out 1; have hfz36_2 := bF BK211.out 2; have hfz36_3 := bF BK211.out 3) | ((with_reducible refine gate_callee (f := 14) rfl ?_); refine goesL_ (some 8) rfl rfl Tryd.func14 (by kernel_rfl) rfl #[.agg #[.int .u64 a0_0, .int .i64 a0_1, .int .i64 a0_2, .slice A0_3 l0_3.length c0_3]] rfl (by (try simp only [List.map_toArray, List.map_cons, List.map_nil]); first | done | rfl | (simp only [List.length_drop, List.length_take]; rfl) | (rw [wrap_sum2 (by assumption)]; rfl)) ?_; (with_reducible refine (r6_Right.calls k a0_0 a0_1 a0_2 _ _ l0_3 false _ ?side1 ?side2 A2.out).mono ?_); (case side1 => repeat (first | exact (Kd.C_below HR0_3.out HB.out) | (with_reducible refine Kd.C_alloc ?_ _) | (with_reducible refine Kd.C_drewN ?_ _) | (with_reducible refine Kd.C_drew ?_))); (case side2 => exact HC0_3.out); rintro e w37 ⟨rfl, hb⟩; refine ⟨_, rfl, ?_⟩; have n0_ := Ax.mk (bB (bT BK211.out) hb); have n1_ := Ax.mk (bP bA hb); clear BK211; clear HB; have BK211 := n0_; have HB := n1_; clear n0_ n1_; (try clear hb); (try clear hb2); (try clear hk); (try clear hi)))
  go_ret2
  exact ⟨by first | rfl | (simp [errW_none, errW_some] <;> rfl) | (simp [*, errW_none, errW_some] <;> rfl), bA⟩
def seal_Take.f (a0 : ByteArray) : Option (ByteArray × Int) := if (wrap64 ((a0.size : Int) - 4)) < 0 then (some ((⟨#[]⟩ : ByteArray), 10)) else (if 0 ≤ (wrap64 ((a0.size : Int) - 4)) then (if (wrap64 ((a0.size : Int) - 4)) ≤ (a0.size : Int) then ((le_Get.f (a0.extract ((wrap64 ((a0.size : Int) - 4)) : Int).toNat a0.size)).bind fun t110 => ((seal_Sum.f (a0.extract 0 ((wrap64 ((a0.size : Int) - 4)) : Int).toNat)).bind fun t111 => (if t110 = (IntKind.u64.wrap (t111)) then (some (a0.extract 0 ((wrap64 ((a0.size : Int) - 4)) : Int).toNat, 0)) else (some ((⟨#[]⟩ : ByteArray), 9))))) else (none)) else (none))
def seal_Take.T4 : Bool × List (List Nat × List Nat) := (true, [([], []), ([], []), ([0, 1], [0, 1]), ([2], [2]), ([], []), ([], []), ([4, 5], [4, 5]), ([6, 3], [6]), ([7], [7]), ([3, 8], [3, 8]), ([9, 7], [9])])
def seal_Take.B4 : List Nat := [0, 0, 3, 7, 0, 0, 48, 127, 255, 511, 1023]
theorem seal_Take.tab4 : rtab .any (opsOf Tryd.f37 4) = seal_Take.T4 := by kernel_rfl
theorem seal_Take.bits4 : waitsOk seal_Take.T4.2 seal_Take.B4 = true := by kernel_rfl
set_option maxHeartbeats 8000000 in
set_option maxRecDepth 100000 in
theorem seal_Take.calls (a0 : ByteArray) (r1 : ByteArray) (r2 : Int) (w : World) (h : seal_Take.f a0 = some (r1, r2)) :
  Calls Tryd.prog 37 #[.string a0] w fun e w' => e = .returned (.tuple #[.string r1, .int .i64 r2]) ∧ Below w.heap.size w w' := by
 have HB := Ax.mk (Below.refl w.heap.size w)
 have H : (if (wrap64 ((a0.size : Int) - 4)) < 0 then (some ((⟨#[]⟩ : ByteArray), 10)) else (if 0 ≤ (wrap64 ((a0.size : Int) - 4)) then (if (wrap64 ((a0.size : Int) - 4)) ≤ (a0.size : Int) then ((le_Get.f (a0.extract ((wrap64 ((a0.size : Int) - 4)) : Int).toNat a0.size)).bind fun t110 => ((seal_Sum.f (a0.extract 0 ((wrap64 ((a0.size : Int) - 4)) : Int).toNat)).bind fun t111 => (if t110 = (IntKind.u64.wrap (t111)) then (some (a0.extract 0 ((wrap64 ((a0.size : Int) - 4)) : Int).toNat, 0)) else (some ((⟨#[]⟩ : ByteArray), 9))))) else (none)) else (none))) = some (r1, r2) := h
 clear h
 by_cases c2 : (wrap64 ((a0.size : Int) - 4)) < 0
 ·rw [if_pos c2] at H
  have c2b0 : decide ((wrap64 ((a0.size : Int) - 4)) < 0) = true := decide_eq_true c2
  clear c2
  simp only [Option.some.injEq, Prod.mk.injEq] at H
  obtain ⟨rfl, rfl⟩ := H
  go_enter Tryd.func37, Tryd.ntmps37
  go_wp2
  go_ret2
  exact ⟨by first | rfl | (simp [errW_none, errW_some] <;> rfl) | (simp [*, errW_none, errW_some] <;> rfl), bA⟩
 ·rw [if_neg c2] at H
  have c2b0 : decide ((wrap64 ((a0.size : Int) - 4)) < 0) = false := decide_eq_false c2
  clear c2
  obtain ⟨ji3, hji3⟩ : ∃ j_ : Int, (wrap64 ((a0.size : Int) - 4)) = j_ := ⟨_, rfl⟩
  replace H : (if 0 ≤ (ji3) then (if (ji3) ≤ (a0.size : Int) then ((le_Get.f (a0.extract ((ji3) : Int).toNat a0.size)).bind fun t110 => ((seal_Sum.f (a0.extract 0 ((ji3) : Int).toNat)).bind fun t111 => (if t110 = (IntKind.u64.wrap (t111)) then (some (a0.extract 0 ((ji3) : Int).toNat, 0)) else (some ((⟨#[]⟩ : ByteArray), 9))))) else (none)) else (none)) = some (r1, r2) := by first | (rw [hji3] at H; exact H) | (simp only [hji3] at H ⊢; exact H)
  (try rw [hji3] at c2b0)
  have hji3w : (IntKind.i64.wrap ((a0.size : Int) - 4)) = ji3 := (i64_w _).trans hji3
  by_cases c4 : 0 ≤ (ji3)
  ·rw [if_pos c4] at H
   have c4b0 := eq_true c4
   have c4b1 : decide (0 ≤ (ji3)) = true := decide_eq_true c4
   clear c4
   by_cases c5 : (ji3) ≤ (a0.size : Int)
   ·rw [if_pos c5] at H
    have c5b0 := eq_true c5
    have c5b1 : decide ((ji3) ≤ (a0.size : Int)) = true := decide_eq_true c5
    clear c5
    replace H := Option.bind_eq_some_iff.mp H
    obtain ⟨t110, A60, H⟩ := H
    replace H : ((seal_Sum.f (a0.extract 0 ((ji3) : Int).toNat)).bind fun t111 => (if t110 = (IntKind.u64.wrap (t111)) then (some (a0.extract 0 ((ji3) : Int).toNat, 0)) else (some ((⟨#[]⟩ : ByteArray), 9)))) = some (r1, r2) := H
    have A6 := Ax.mk A60
    clear A60
    have c7b0 := eq_true (of_decide_eq_true (by first | (with_reducible assumption) | assumption) : 0 ≤ (ji3))
    have c8b0 := eq_true (of_decide_eq_true (by first | (with_reducible assumption) | assumption) : (ji3) ≤ (a0.size : Int))
    replace H := Option.bind_eq_some_iff.mp H
    obtain ⟨t111, A90, H⟩ := H
    replace H : (if t110 = (IntKind.u64.wrap (t111)) then (some (a0.extract 0 ((ji3) : Int).toNat, 0)) else (some ((⟨#[]⟩ : ByteArray), 9))) = some (r1, r2) := H
    have A9 := Ax.mk A90
    clear A90
    by_cases c10 : t110 = (IntKind.u64.wrap (t111))
    ·rw [if_pos c10] at H
     have c10b0 : (t110 == (IntKind.u64.wrap (t111))) = true := beq_iff_eq.mpr c10
     have c10b1 : (t110 != (IntKind.u64.wrap (t111))) = false := bne_eq_false_iff_eq.mpr c10
     clear c10
     have c11b0 := eq_true (of_decide_eq_true (by first | (with_reducible assumption) | assumption) : 0 ≤ (ji3))
     have c12b0 := eq_true (of_decide_eq_true (by first | (with_reducible assumption) | assumption) : (ji3) ≤ (a0.size : Int))
     simp only [Option.some.injEq, Prod.mk.injEq] at H
     obtain ⟨rfl, rfl⟩ := H
     go_enter Tryd.func37, Tryd.ntmps37
     try go_wp2
     have n0_ := Ax.mk (below_drew1 HB.out)
     clear HB
     have HB := n0_
     clear n0_
     refine start_ (n := 11) (S := fun w' => True) (ds := []) #[false, false, false, false, false, false, false, false, false, false, false] (by kernel_rfl) rfl rfl trivial (fun hHeld => ?_); refine with_tabW seal_Take.tab4 seal_Take.bits4 (fun HT_ HW_ => ?_)
     generalize w.drew = w13 at HB hHeld ⊢
     refine pure_ (i := 0) (N := some 12) (v := ?_) (a' := ?_) #[true, false, false, false, false, false, false, false, false, false, false] rfl rfl (any_of HT_.out (by kernel_rfl)) (fun _ _ _ h => h) (Or.inl ⟨by rfl, ?_⟩) ?_ ?_
     rotate_left
     ·intro w'
      go_simp
      with_reducible rfl
     rotate_left
     ·simp only [Act.put, setIfInBounds_toArray, set_cons_zero, set_cons_succ, i64_w, i32_w]
      rfl
     refine pure_ (i := 1) (N := some 13) (v := ?_) (a' := ?_) #[true, true, false, false, false, false, false, false, false, false, false] rfl rfl (any_of HT_.out (by kernel_rfl)) (fun _ _ _ h => h) (Or.inl ⟨by rfl, ?_⟩) ?_ ?_
     rotate_left
     ·intro w'
      go_simp
      with_reducible rfl
     rotate_left
     ·simp only [Act.put, setIfInBounds_toArray, set_cons_zero, set_cons_succ, i64_w, i32_w]
      rfl
     refine pure_ (i := 2) (N := some 14) (v := ?_) (a' := ?_) #[true, true, true, false, false, false, false, false, false, false, false] rfl rfl (any_of HT_.out (by kernel_rfl)) (fun _ _ _ h => h) (Or.inl ⟨by rfl, ?_⟩) ?_ ?_
     rotate_left
     ·intro w'
      go_simp
      with_reducible rfl
     rotate_left
     ·simp only [Act.put, setIfInBounds_toArray, set_cons_zero, set_cons_succ, i64_w, i32_w]
      rfl
     refine pure_ (i := 4) (N := some 16) (v := ?_) (a' := ?_) #[true, true, true, false, true, false, false, false, false, false, false] rfl rfl (any_of HT_.out (by kernel_rfl)) (fun _ _ _ h => h) (Or.inl ⟨by rfl, ?_⟩) ?_ ?_
     rotate_left
     ·intro w'
      go_simp
      with_reducible rfl
     rotate_left
     ·simp only [Act.put, setIfInBounds_toArray, set_cons_zero, set_cons_succ, i64_w, i32_w]
      rfl
     refine pure_ (i := 5) (N := some 17) (v := ?_) (a' := ?_) #[true, true, true, false, true, true, false, false, false, false, false] rfl rfl (any_of HT_.out (by kernel_rfl)) (fun _ _ _ h => h) (Or.inl ⟨by rfl, ?_⟩) ?_ ?_
     rotate_left
     ·intro w'
      go_simp
      with_reducible rfl
     rotate_left
     ·simp only [Act.put, setIfInBounds_toArray, set_cons_zero, set_cons_succ, i64_w, i32_w]
      rfl
     refine pure_ (i := 6) (N := some 18) (v := ?_) (a' := ?_) #[true, true, true, false, true, true, true, false, false, false, false] rfl rfl (any_of HT_.out (by kernel_rfl)) (fun _ _ _ h => h) (Or.inl ⟨by rfl, ?_⟩) ?_ ?_
     rotate_left
     ·intro w'
      go_simp
      with_reducible rfl
     rotate_left
     ·simp only [Act.put, setIfInBounds_toArray, set_cons_zero, set_cons_succ, i64_w, i32_w]
      rfl
     refine one_ (i := 3) (N := some 15) #[true, true, true, true, true, true, true, false, false, false, false] rfl rfl (one_of HT_.out (by kernel_rfl)) (by decide) (fun K hK => ?_)
     refine goes_ Tryd.func54 (by kernel_rfl) rfl #[.string (a0.extract ((ji3) : Int).toNat a0.size)] (by rfl) rfl rfl (by (try simp only [List.map_toArray, List.map_cons, List.map_nil]); first | done | (simp only [hji3]; rfl) | rfl | (simp only [List.length_drop, List.length_take]; rfl) | (rw [wrap_sum2 (by assumption)]; rfl)) ?_
     with_reducible refine (le_Get.calls (a0.extract ((ji3) : Int).toNat a0.size) t110 _ A6.out).mono ?_
     rintro e w14 ⟨rfl, hb⟩
     refine ⟨_, rfl, ?_⟩
     have n0_ := Ax.mk (bP bA hb)
     clear HB
     have HB := n0_
     clear n0_
     (try clear hb)
     (try clear hb2)
     (try clear hk)
     (try clear hi)
     refine hK.out _ _ trivial (fun hHeld => ?_)
     clear hK K
     refine norm_ (a' := ?_) ?_ ?_
     rotate_left
     ·show Act.put _ (some 15) _ = _
      simp only [Act.put, setIfInBounds_toArray, set_cons_zero, set_cons_succ, i64_w, i32_w]
      rfl
     refine one_ (i := 7) (N := some 19) #[true, true, true, true, true, true, true, true, false, false, false] rfl rfl (one_of HT_.out (by kernel_rfl)) (by decide) (fun K hK => ?_)
     refine goes_ Tryd.func49 (by kernel_rfl) rfl #[.string (a0.extract 0 ((ji3) : Int).toNat)] (by rfl) rfl rfl (by (try simp only [List.map_toArray, List.map_cons, List.map_nil]); first | done | (simp only [hji3]; rfl) | rfl | (simp only [List.length_drop, List.length_take]; rfl) | (rw [wrap_sum2 (by assumption)]; rfl)) ?_
     with_reducible refine (seal_Sum.calls (a0.extract 0 ((ji3) : Int).toNat) t111 _ A9.out).mono ?_
     rintro e w15 ⟨rfl, hb⟩
     refine ⟨_, rfl, ?_⟩
     have n0_ := Ax.mk (bP bA hb)
     clear HB
     have HB := n0_
     clear n0_
     (try clear hb)
     (try clear hb2)
     (try clear hk)
     (try clear hi)
     refine hK.out _ _ trivial (fun hHeld => ?_)
     clear hK K
     refine norm_ (a' := ?_) ?_ ?_
     rotate_left
     ·show Act.put _ (some 19) _ = _
      simp only [Act.put, setIfInBounds_toArray, set_cons_zero, set_cons_succ, i64_w, i32_w]
      rfl
     refine pure_ (i := 8) (N := some 20) (v := ?_) (a' := ?_) #[true, true, true, true, true, true, true, true, true, false, false] rfl rfl (any_of HT_.out (by kernel_rfl)) (fun _ _ _ h => h) (Or.inl ⟨by rfl, ?_⟩) ?_ ?_
     rotate_left
     ·intro w'
      go_simp
      with_reducible rfl
     rotate_left
     ·simp only [Act.put, setIfInBounds_toArray, set_cons_zero, set_cons_succ, i64_w, i32_w]
      rfl
     refine pure_ (i := 9) (N := some 21) (v := ?_) (a' := ?_) #[true, true, true, true, true, true, true, true, true, true, false] rfl rfl (any_of HT_.out (by kernel_rfl)) (fun _ _ _ h => h) (Or.inl ⟨by rfl, ?_⟩) ?_ ?_
     rotate_left
     ·intro w'
      go_simp
      with_reducible rfl
     rotate_left
     ·simp only [Act.put, setIfInBounds_toArray, set_cons_zero, set_cons_succ, i64_w, i32_w]
      rfl
     refine pure_ (i := 10) (N := some 11) (v := ?_) (a' := ?_) #[true, true, true, true, true, true, true, true, true, true, true] rfl rfl (any_of HT_.out (by kernel_rfl)) (fun _ _ _ h => h) (Or.inl ⟨by rfl, ?_⟩) ?_ ?_
     rotate_left
     ·intro w'
      go_simp
      with_reducible rfl
     rotate_left
     ·simp only [Act.put, setIfInBounds_toArray, set_cons_zero, set_cons_succ, i64_w, i32_w]
      rfl
     refine done_ (done_of HT_.out (by kernel_rfl)) ?_
     try go_wp2
     go_ret2
     exact ⟨by first | rfl | (simp [errW_none, errW_some] <;> rfl) | (simp only [← hji3]; first | rfl | (simp [errW_none, errW_some] <;> rfl)) | (simp [*, errW_none, errW_some] <;> rfl), bA⟩
    ·rw [if_neg c10] at H
     have c10b0 : (t110 == (IntKind.u64.wrap (t111))) = false := beq_eq_false_iff_ne.mpr c10
     have c10b1 : (t110 != (IntKind.u64.wrap (t111))) = true := bne_iff_ne.mpr c10
     simp only [Option.some.injEq, Prod.mk.injEq] at H
     obtain ⟨rfl, rfl⟩ := H
     go_enter Tryd.func37, Tryd.ntmps37
     try go_wp2
     have n0_ := Ax.mk (below_drew1 HB.out)
     clear HB
     have HB := n0_
     clear n0_
     refine start_ (n := 11) (S := fun w' => True) (ds := []) #[false, false, false, false, false, false, false, false, false, false, false] (by kernel_rfl) rfl rfl trivial (fun hHeld => ?_); refine with_tabW seal_Take.tab4 seal_Take.bits4 (fun HT_ HW_ => ?_)
     generalize w.drew = w16 at HB hHeld ⊢
     refine pure_ (i := 0) (N := some 12) (v := ?_) (a' := ?_) #[true, false, false, false, false, false, false, false, false, false, false] rfl rfl (any_of HT_.out (by kernel_rfl)) (fun _ _ _ h => h) (Or.inl ⟨by rfl, ?_⟩) ?_ ?_
     rotate_left
     ·intro w'
      go_simp
      with_reducible rfl
     rotate_left
     ·simp only [Act.put, setIfInBounds_toArray, set_cons_zero, set_cons_succ, i64_w, i32_w]
      rfl
     refine pure_ (i := 1) (N := some 13) (v := ?_) (a' := ?_) #[true, true, false, false, false, false, false, false, false, false, false] rfl rfl (any_of HT_.out (by kernel_rfl)) (fun _ _ _ h => h) (Or.inl ⟨by rfl, ?_⟩) ?_ ?_
     rotate_left
     ·intro w'
      go_simp
      with_reducible rfl
     rotate_left
     ·simp only [Act.put, setIfInBounds_toArray, set_cons_zero, set_cons_succ, i64_w, i32_w]
      rfl
     refine pure_ (i := 2) (N := some 14) (v := ?_) (a' := ?_) #[true, true, true, false, false, false, false, false, false, false, false] rfl rfl (any_of HT_.out (by kernel_rfl)) (fun _ _ _ h => h) (Or.inl ⟨by rfl, ?_⟩) ?_ ?_
     rotate_left
     ·intro w'
      go_simp
      with_reducible rfl
     rotate_left
     ·simp only [Act.put, setIfInBounds_toArray, set_cons_zero, set_cons_succ, i64_w, i32_w]
      rfl
     refine pure_ (i := 4) (N := some 16) (v := ?_) (a' := ?_) #[true, true, true, false, true, false, false, false, false, false, false] rfl rfl (any_of HT_.out (by kernel_rfl)) (fun _ _ _ h => h) (Or.inl ⟨by rfl, ?_⟩) ?_ ?_
     rotate_left
     ·intro w'
      go_simp
      with_reducible rfl
     rotate_left
     ·simp only [Act.put, setIfInBounds_toArray, set_cons_zero, set_cons_succ, i64_w, i32_w]
      rfl
     refine pure_ (i := 5) (N := some 17) (v := ?_) (a' := ?_) #[true, true, true, false, true, true, false, false, false, false, false] rfl rfl (any_of HT_.out (by kernel_rfl)) (fun _ _ _ h => h) (Or.inl ⟨by rfl, ?_⟩) ?_ ?_
     rotate_left
     ·intro w'
      go_simp
      with_reducible rfl
     rotate_left
     ·simp only [Act.put, setIfInBounds_toArray, set_cons_zero, set_cons_succ, i64_w, i32_w]
      rfl
     refine pure_ (i := 6) (N := some 18) (v := ?_) (a' := ?_) #[true, true, true, false, true, true, true, false, false, false, false] rfl rfl (any_of HT_.out (by kernel_rfl)) (fun _ _ _ h => h) (Or.inl ⟨by rfl, ?_⟩) ?_ ?_
     rotate_left
     ·intro w'
      go_simp
      with_reducible rfl
     rotate_left
     ·simp only [Act.put, setIfInBounds_toArray, set_cons_zero, set_cons_succ, i64_w, i32_w]
      rfl
     refine one_ (i := 3) (N := some 15) #[true, true, true, true, true, true, true, false, false, false, false] rfl rfl (one_of HT_.out (by kernel_rfl)) (by decide) (fun K hK => ?_)
     refine goes_ Tryd.func54 (by kernel_rfl) rfl #[.string (a0.extract ((ji3) : Int).toNat a0.size)] (by rfl) rfl rfl (by (try simp only [List.map_toArray, List.map_cons, List.map_nil]); first | done | (simp only [hji3]; rfl) | rfl | (simp only [List.length_drop, List.length_take]; rfl) | (rw [wrap_sum2 (by assumption)]; rfl)) ?_
     with_reducible refine (le_Get.calls (a0.extract ((ji3) : Int).toNat a0.size) t110 _ A6.out).mono ?_
     rintro e w17 ⟨rfl, hb⟩
     refine ⟨_, rfl, ?_⟩
     have n0_ := Ax.mk (bP bA hb)
     clear HB
     have HB := n0_
     clear n0_
     (try clear hb)
     (try clear hb2)
     (try clear hk)
     (try clear hi)
     refine hK.out _ _ trivial (fun hHeld => ?_)
     clear hK K
     refine norm_ (a' := ?_) ?_ ?_
     rotate_left
     ·show Act.put _ (some 15) _ = _
      simp only [Act.put, setIfInBounds_toArray, set_cons_zero, set_cons_succ, i64_w, i32_w]
      rfl
     refine one_ (i := 7) (N := some 19) #[true, true, true, true, true, true, true, true, false, false, false] rfl rfl (one_of HT_.out (by kernel_rfl)) (by decide) (fun K hK => ?_)
     refine goes_ Tryd.func49 (by kernel_rfl) rfl #[.string (a0.extract 0 ((ji3) : Int).toNat)] (by rfl) rfl rfl (by (try simp only [List.map_toArray, List.map_cons, List.map_nil]); first | done | (simp only [hji3]; rfl) | rfl | (simp only [List.length_drop, List.length_take]; rfl) | (rw [wrap_sum2 (by assumption)]; rfl)) ?_
     with_reducible refine (seal_Sum.calls (a0.extract 0 ((ji3) : Int).toNat) t111 _ A9.out).mono ?_
     rintro e w18 ⟨rfl, hb⟩
     refine ⟨_, rfl, ?_⟩
     have n0_ := Ax.mk (bP bA hb)
     clear HB
     have HB := n0_
     clear n0_
     (try clear hb)
     (try clear hb2)
     (try clear hk)
     (try clear hi)
     refine hK.out _ _ trivial (fun hHeld => ?_)
     clear hK K
     refine norm_ (a' := ?_) ?_ ?_
     rotate_left
     ·show Act.put _ (some 19) _ = _
      simp only [Act.put, setIfInBounds_toArray, set_cons_zero, set_cons_succ, i64_w, i32_w]
      rfl
     refine pure_ (i := 8) (N := some 20) (v := ?_) (a' := ?_) #[true, true, true, true, true, true, true, true, true, false, false] rfl rfl (any_of HT_.out (by kernel_rfl)) (fun _ _ _ h => h) (Or.inl ⟨by rfl, ?_⟩) ?_ ?_
     rotate_left
     ·intro w'
      go_simp
      with_reducible rfl
     rotate_left
     ·simp only [Act.put, setIfInBounds_toArray, set_cons_zero, set_cons_succ, i64_w, i32_w]
      rfl
     refine pure_ (i := 9) (N := some 21) (v := ?_) (a' := ?_) #[true, true, true, true, true, true, true, true, true, true, false] rfl rfl (any_of HT_.out (by kernel_rfl)) (fun _ _ _ h => h) (Or.inl ⟨by rfl, ?_⟩) ?_ ?_
     rotate_left
     ·intro w'
      go_simp
      with_reducible rfl
     rotate_left
     ·simp only [Act.put, setIfInBounds_toArray, set_cons_zero, set_cons_succ, i64_w, i32_w]
      rfl
     refine pure_ (i := 10) (N := some 11) (v := ?_) (a' := ?_) #[true, true, true, true, true, true, true, true, true, true, true] rfl rfl (any_of HT_.out (by kernel_rfl)) (fun _ _ _ h => h) (Or.inl ⟨by rfl, ?_⟩) ?_ ?_
     rotate_left
     ·intro w'
      go_simp
      with_reducible rfl
     rotate_left
     ·simp only [Act.put, setIfInBounds_toArray, set_cons_zero, set_cons_succ, i64_w, i32_w]
      rfl
     refine done_ (done_of HT_.out (by kernel_rfl)) ?_
     try go_wp2
     go_ret2
     exact ⟨by first | rfl | (simp [errW_none, errW_some] <;> rfl) | (simp only [← hji3]; first | rfl | (simp [errW_none, errW_some] <;> rfl)) | (simp [*, errW_none, errW_some] <;> rfl), bA⟩
   ·rw [if_neg c5] at H
    exact absurd H (by simp)
  ·rw [if_neg c4] at H
   exact absurd H (by simp)
end Go.Proofs.YtcgejogmiglalaaDoor.Fn
end
section
namespace Go.Proofs.YtcgejogmiglalaaDoor.Fn
open Go.RowKit Go.Proofs.YtcgejogmiglalaaDoorW.PrintWords Go.Proofs.YtcgejogmiglalaaDoorW.PrintLast Go.Proofs.YtcgejogmiglalaaDoorW.PrintMore Go.Proofs.YtcgejogmiglalaaDoor.Lf
attribute [local go_sem] max2_int min2_int max_two min_two max_three min_three max_four min_four   -- for this text's walks alone
set_option linter.unusedVariables false
set_option linter.unusedSimpArgs false
def IsS74 (w0 W : World) (g : Nat) (f0 : ByteArray) (f1 : Bool) : Prop := W.heap[g]? = some (.cells #[.string f0, .bool f1] 74 (0, 0)) ∧ w0.heap.size ≤ g
theorem IsS74.grown {w0 W : World} {g : Nat} {f0 : ByteArray} {f1 : Bool} {W1 : World} {row : Option Nat} (h : IsS74 w0 W g f0 f1) (hw : W.grownBy W1 row) (hne : some g ≠ row) : IsS74 w0 W1 g f0 f1 := by
 obtain ⟨hb, hg⟩ := h
 exact ⟨blk_grown hb hw hne, hg⟩
theorem IsS74.kept {w0 W : World} {g : Nat} {f0 : ByteArray} {f1 : Bool} {W1 : World} {S : Nat → Prop} (h : IsS74 w0 W g f0 f1) (hk : Kept W W1 S) (hne : ¬ S g) : IsS74 w0 W1 g f0 f1 := by
 obtain ⟨hb, hg⟩ := h
 exact ⟨blk_kept hb hk hne, hg⟩
theorem IsS74.below {w0 W : World} {g : Nat} {f0 : ByteArray} {f1 : Bool} {W1 : World} (h : IsS74 w0 W g f0 f1) (hw : Below W.heap.size W W1) : IsS74 w0 W1 g f0 f1 := h.grown (grown_of_below hw none) (by simp)
theorem IsS74.alloc {w0 W : World} {g : Nat} {f0 : ByteArray} {f1 : Bool} (h : IsS74 w0 W g f0 f1) (o : Obj) : IsS74 w0 (W.alloc o) g f0 f1 := h.below (below_alloc (Below.refl _ _) o)
theorem IsS74.drewN {w0 W : World} {g : Nat} {f0 : ByteArray} {f1 : Bool} (h : IsS74 w0 W g f0 f1) (m : Nat) : IsS74 w0 (W.drewN m) g f0 f1 := h
theorem IsS74.drew {w0 W : World} {g : Nat} {f0 : ByteArray} {f1 : Bool} (h : IsS74 w0 W g f0 f1) : IsS74 w0 W.drew g f0 f1 := h
theorem IsS74.at_ {w0 W : World} {g : Nat} {f0 : ByteArray} {f1 : Bool} {w' : World} {m : Nat} (hq : W.drewN m = w') (h : IsS74 w0 W g f0 f1) : IsS74 w0 w' g f0 f1 := by subst hq; exact IsS74.drewN h m
theorem IsS74.apart {w0 W : World} {g : Nat} {f0 : ByteArray} {f1 : Bool} {α : Type} {d : Kd α} {e : Nat} {base : Nat} {ok : Nat → Prop} {v : Value} {xs : List α} (h : IsS74 w0 W g f0 f1) (ho : d.R e W base ok v xs) (ht : ∀ q, q ∈ e :: d.E → q ≠ 74) : d.R e W base (fun k => ok k ∧ k ≠ g) v xs := by
 obtain ⟨hb, hg⟩ := h
 exact Kd.R_types ho hb ht
theorem IsS74.own_ne {w0 W : World} {g : Nat} {f0 : ByteArray} {f1 : Bool} {α : Type} {d : Kd α} {e : Nat} {base : Nat} {ok : Nat → Prop} {v : Value} {xs : List α} (h : IsS74 w0 W g f0 f1) (ho : d.R e W base ok v xs) (ht : e ≠ 74) : some g ≠ v.ownBlock := by
 obtain ⟨hb, hg⟩ := h
 exact Kd.R_ne ho hb ht
theorem IsS74.ge {w0 W : World} {g : Nat} {f0 : ByteArray} {f1 : Bool} (h : IsS74 w0 W g f0 f1) : w0.heap.size ≤ g := by
 obtain ⟨hb, hg⟩ := h
 exact hg
theorem cellS74_0 {W : World} {g : Nat} {f0 : ByteArray} {f1 : Bool} (h : W.heap[g]? = some (.cells #[.string f0, .bool f1] 74 (0, 0))) : W.cell? ⟨g, 0, none⟩ = some (.string f0) := (bC h 0).trans rfl
theorem IsS74.set_0 {w0 W : World} {g : Nat} {f0 : ByteArray} {f1 : Bool} (h : IsS74 w0 W g f0 f1) (x : ByteArray) : IsS74 w0 (W.setCell ⟨g, 0, none⟩ (.string x)) g x f1 := by
 obtain ⟨hb, hg⟩ := h
 exact ⟨by simpa using blk_set hb 0 (.string x), hg⟩
theorem cellS74_1 {W : World} {g : Nat} {f0 : ByteArray} {f1 : Bool} (h : W.heap[g]? = some (.cells #[.string f0, .bool f1] 74 (0, 0))) : W.cell? ⟨g, 1, none⟩ = some (.bool f1) := (bC h 1).trans rfl
theorem IsS74.set_1 {w0 W : World} {g : Nat} {f0 : ByteArray} {f1 : Bool} (h : IsS74 w0 W g f0 f1) (x : Bool) : IsS74 w0 (W.setCell ⟨g, 1, none⟩ (.bool x)) g f0 x := by
 obtain ⟨hb, hg⟩ := h
 exact ⟨by simpa using blk_set hb 1 (.bool x), hg⟩
theorem IsS74.new (w0 W : World) (f0 : ByteArray) (f1 : Bool) (hB : Below w0.heap.size w0 W) : IsS74 w0 (W.alloc (.cells #[.string f0, .bool f1] 74)) W.heap.size f0 f1 := ⟨by simpa using heap_alloc_new W _, hB.size⟩
def le_Reader_Text.f (s0_0 : ByteArray) (s0_1 : Bool) (a1 : Int) : Option (ByteArray × ByteArray × Bool) := if s0_1 = true then (some ((⟨#[]⟩ : ByteArray), s0_0, true)) else (if a1 < 0 then (some ((⟨#[]⟩ : ByteArray), s0_0, true)) else (if a1 > (s0_0.size : Int) then (some ((⟨#[]⟩ : ByteArray), s0_0, decide (a1 > (s0_0.size : Int)))) else (if 0 ≤ a1 then (if a1 ≤ (s0_0.size : Int) then (some (s0_0.extract 0 (a1 : Int).toNat, s0_0.extract (a1 : Int).toNat s0_0.size, decide (a1 > (s0_0.size : Int)))) else (none)) else (none))))
set_option maxHeartbeats 8000000 in
set_option maxRecDepth 100000 in
theorem le_Reader_Text.calls (g : Nat) (s0_0 : ByteArray) (s0_1 : Bool) (a1 : Int) (r1 : ByteArray) (r2 : ByteArray) (r3 : Bool) (w0 w : World) (hI : IsS74 w0 w g s0_0 s0_1) (hB : Below w0.heap.size w0 w) (h : le_Reader_Text.f s0_0 s0_1 a1 = some (r1, r2, r3)) :
  Calls Tryd.prog 39 #[.pointer (some ⟨g, 0, none⟩), .int .i64 a1] w fun e w' => e = .returned (.string r1) ∧ IsS74 w0 w' g r2 r3 ∧ Below w0.heap.size w0 w' ∧ KeepBut w w' g none := by
 have HI0 := Ax.mk hI
 have HK := Ax.mk (KeepBut.refl w g none)
 have HL := Ax.mk hB.size
 clear hI
 have HW0 := Ax.mk hB.size
 have HB := Ax.mk hB
 clear hB
 have H : (if s0_1 = true then (some ((⟨#[]⟩ : ByteArray), s0_0, true)) else (if a1 < 0 then (some ((⟨#[]⟩ : ByteArray), s0_0, true)) else (if a1 > (s0_0.size : Int) then (some ((⟨#[]⟩ : ByteArray), s0_0, decide (a1 > (s0_0.size : Int)))) else (if 0 ≤ a1 then (if a1 ≤ (s0_0.size : Int) then (some (s0_0.extract 0 (a1 : Int).toNat, s0_0.extract (a1 : Int).toNat s0_0.size, decide (a1 > (s0_0.size : Int)))) else (none)) else (none))))) = some (r1, r2, r3) := h
 clear h
 by_cases c3 : s0_1 = true
 ·subst c3
  have H1 : (some ((⟨#[]⟩ : ByteArray), s0_0, true)) = some (r1, r2, r3) := by rw [if_pos rfl] at H; exact H
  clear H
  have H := H1
  clear H1
  simp only [Option.some.injEq, Prod.mk.injEq] at H
  obtain ⟨rfl, rfl, rfl⟩ := H
  obtain ⟨HGz4, hgz4⟩ := HI0.out
  have hcz4_0 := cellS74_0 HGz4
  have hcz4_1 := cellS74_1 HGz4
  have hfz4_0 := bF HGz4 0
  have hfz4_1 := bF HGz4 1
  clear HGz4 hgz4
  go_enter Tryd.func39, Tryd.ntmps39
  go_wp2
  go_ret
  exact ⟨by first | rfl | (simp [errW_none, errW_some] <;> rfl) | (simp [*, errW_none, errW_some] <;> rfl), by repeat (first | (with_reducible first | exact HI0.out | apply IsS74.alloc | apply IsS74.drewN | apply IsS74.drew | apply IsS74.set_0 | apply IsS74.set_1) | exact HI0.out), by repeat (first | (with_reducible first | exact HB.out | apply below_alloc | apply pw_below_drewN | apply below_drew1 | refine below_set ?_ (IsS74.ge HI0.out)) | exact HB.out), by repeat (first | (with_reducible first | exact HK.out | apply KeepBut.set_ | apply keep_drewN | apply keep_drew | apply keep_alloc) | exact HK.out)⟩
 ·replace c3 := Bool.eq_false_iff.mpr c3
  subst c3
  have H1 : (if a1 < 0 then (some ((⟨#[]⟩ : ByteArray), s0_0, true)) else (if a1 > (s0_0.size : Int) then (some ((⟨#[]⟩ : ByteArray), s0_0, decide (a1 > (s0_0.size : Int)))) else (if 0 ≤ a1 then (if a1 ≤ (s0_0.size : Int) then (some (s0_0.extract 0 (a1 : Int).toNat, s0_0.extract (a1 : Int).toNat s0_0.size, decide (a1 > (s0_0.size : Int)))) else (none)) else (none)))) = some (r1, r2, r3) := by rw [if_neg (show ¬ (false = true) by decide)] at H; exact H
  clear H
  have H := H1
  clear H1
  by_cases c5 : a1 < 0
  ·rw [if_pos c5] at H
   (try rw [decide_eq_true c5] at H)
   have c5b0 : decide (a1 < 0) = true := decide_eq_true c5
   clear c5
   simp only [Option.some.injEq, Prod.mk.injEq] at H
   obtain ⟨rfl, rfl, rfl⟩ := H
   obtain ⟨HGz6, hgz6⟩ := HI0.out
   have hcz6_0 := cellS74_0 HGz6
   have hcz6_1 := cellS74_1 HGz6
   have hfz6_0 := bF HGz6 0
   have hfz6_1 := bF HGz6 1
   clear HGz6 hgz6
   go_enter Tryd.func39, Tryd.ntmps39
   go_wp2
   go_ret
   exact ⟨by first | rfl | (simp [errW_none, errW_some] <;> rfl) | (simp [*, errW_none, errW_some] <;> rfl), by repeat (first | (with_reducible first | exact HI0.out | apply IsS74.alloc | apply IsS74.drewN | apply IsS74.drew | apply IsS74.set_0 | apply IsS74.set_1) | exact HI0.out), by repeat (first | (with_reducible first | exact HB.out | apply below_alloc | apply pw_below_drewN | apply below_drew1 | refine below_set ?_ (IsS74.ge HI0.out)) | exact HB.out), by repeat (first | (with_reducible first | exact HK.out | apply KeepBut.set_ | apply keep_drewN | apply keep_drew | apply keep_alloc) | exact HK.out)⟩
  ·rw [if_neg c5] at H
   (try rw [decide_eq_false c5] at H)
   have c5b0 : decide (a1 < 0) = false := decide_eq_false c5
   clear c5
   by_cases c7 : a1 > (s0_0.size : Int)
   ·rw [if_pos c7] at H
    (try rw [decide_eq_true c7] at H)
    have c7b0 : decide ((s0_0.size : Int) < a1) = true := decide_eq_true c7
    clear c7
    simp only [Option.some.injEq, Prod.mk.injEq] at H
    obtain ⟨rfl, rfl, rfl⟩ := H
    obtain ⟨HGz8, hgz8⟩ := HI0.out
    have hcz8_0 := cellS74_0 HGz8
    have hcz8_1 := cellS74_1 HGz8
    have hfz8_0 := bF HGz8 0
    have hfz8_1 := bF HGz8 1
    clear HGz8 hgz8
    go_enter Tryd.func39, Tryd.ntmps39
    go_wp2
    go_ret
    exact ⟨by first | rfl | (simp [errW_none, errW_some] <;> rfl) | (simp [*, errW_none, errW_some] <;> rfl), by repeat (first | (with_reducible first | exact HI0.out | apply IsS74.alloc | apply IsS74.drewN | apply IsS74.drew | apply IsS74.set_0 | apply IsS74.set_1) | exact HI0.out), by repeat (first | (with_reducible first | exact HB.out | apply below_alloc | apply pw_below_drewN | apply below_drew1 | refine below_set ?_ (IsS74.ge HI0.out)) | exact HB.out), by repeat (first | (with_reducible first | exact HK.out | apply KeepBut.set_ | apply keep_drewN | apply keep_drew | apply keep_alloc) | exact HK.out)⟩
   ·rw [if_neg c7] at H
    (try rw [decide_eq_false c7] at H)
    have c7b0 : decide ((s0_0.size : Int) < a1) = false := decide_eq_false c7
    clear c7
    by_cases c9 : 0 ≤ a1
    ·rw [if_pos c9] at H
     (try rw [decide_eq_true c9] at H)
     have c9b0 := eq_true c9
     have c9b1 : decide (0 ≤ a1) = true := decide_eq_true c9
     clear c9
     by_cases c10 : a1 ≤ (s0_0.size : Int)
     ·rw [if_pos c10] at H
      (try rw [decide_eq_true c10] at H)
      have c10b0 := eq_true c10
      have c10b1 : decide (a1 ≤ (s0_0.size : Int)) = true := decide_eq_true c10
      clear c10
      have c11b0 := eq_true (of_decide_eq_true (by first | (with_reducible assumption) | assumption) : 0 ≤ a1)
      have c12b0 := eq_true (of_decide_eq_true (by first | (with_reducible assumption) | assumption) : a1 ≤ (s0_0.size : Int))
      simp only [Option.some.injEq, Prod.mk.injEq] at H
      obtain ⟨rfl, rfl, rfl⟩ := H
      obtain ⟨HGz13, hgz13⟩ := HI0.out
      have hcz13_0 := cellS74_0 HGz13
      have hcz13_1 := cellS74_1 HGz13
      have hfz13_0 := bF HGz13 0
      have hfz13_1 := bF HGz13 1
      clear HGz13 hgz13
      go_enter Tryd.func39, Tryd.ntmps39
      go_wp2
      go_ret
      exact ⟨by first | rfl | (simp [errW_none, errW_some] <;> rfl) | (simp [*, errW_none, errW_some] <;> rfl), by repeat (first | (with_reducible first | exact HI0.out | apply IsS74.alloc | apply IsS74.drewN | apply IsS74.drew | apply IsS74.set_0 | apply IsS74.set_1) | exact HI0.out), by repeat (first | (with_reducible first | exact HB.out | apply below_alloc | apply pw_below_drewN | apply below_drew1 | refine below_set ?_ (IsS74.ge HI0.out)) | exact HB.out), by repeat (first | (with_reducible first | exact HK.out | apply KeepBut.set_ | apply keep_drewN | apply keep_drew | apply keep_alloc) | exact HK.out)⟩
     ·rw [if_neg c10] at H
      (try rw [decide_eq_false c10] at H)
      exact absurd H (by simp)
    ·rw [if_neg c9] at H
     (try rw [decide_eq_false c9] at H)
     exact absurd H (by simp)
def le_Reader_Number.f (s0_0 : ByteArray) (s0_1 : Bool) (a1 : Int) : Option (Int × ByteArray × Bool) := if a1 > 8 then ((le_Reader_Text.f s0_0 s0_1 (-1)).bind fun bt112 => ((le_Get.f bt112.1).bind fun t115 => (some (t115, bt112.2.1, bt112.2.2)))) else ((le_Reader_Text.f s0_0 s0_1 a1).bind fun bt116 => ((le_Get.f bt116.1).bind fun t119 => (some (t119, bt116.2.1, bt116.2.2))))
set_option maxHeartbeats 8000000 in
set_option maxRecDepth 100000 in
theorem le_Reader_Number.calls (g : Nat) (s0_0 : ByteArray) (s0_1 : Bool) (a1 : Int) (r1 : Int) (r2 : ByteArray) (r3 : Bool) (w0 w : World) (hI : IsS74 w0 w g s0_0 s0_1) (hB : Below w0.heap.size w0 w) (h : le_Reader_Number.f s0_0 s0_1 a1 = some (r1, r2, r3)) :
  Calls Tryd.prog 40 #[.pointer (some ⟨g, 0, none⟩), .int .i64 a1] w fun e w' => e = .returned (.int .u64 r1) ∧ IsS74 w0 w' g r2 r3 ∧ Below w0.heap.size w0 w' ∧ KeepBut w w' g none := by
 have HI0 := Ax.mk hI
 have HK := Ax.mk (KeepBut.refl w g none)
 have HL := Ax.mk hB.size
 clear hI
 have HW0 := Ax.mk hB.size
 have HB := Ax.mk hB
 clear hB
 have H : (if a1 > 8 then ((le_Reader_Text.f s0_0 s0_1 (-1)).bind fun bt112 => ((le_Get.f bt112.1).bind fun t115 => (some (t115, bt112.2.1, bt112.2.2)))) else ((le_Reader_Text.f s0_0 s0_1 a1).bind fun bt116 => ((le_Get.f bt116.1).bind fun t119 => (some (t119, bt116.2.1, bt116.2.2))))) = some (r1, r2, r3) := h
 clear h
 by_cases c3 : a1 > 8
 ·rw [if_pos c3] at H
  have c3b0 : decide (8 < a1) = true := decide_eq_true c3
  clear c3
  replace H := Option.bind_eq_some_iff.mp H
  obtain ⟨⟨t112, t113, t114⟩, A40, H⟩ := H
  replace H : ((le_Get.f t112).bind fun t115 => (some (t115, t113, t114))) = some (r1, r2, r3) := H
  have A4 := Ax.mk A40
  clear A40
  replace H := Option.bind_eq_some_iff.mp H
  obtain ⟨t115, A50, H⟩ := H
  replace H : (some (t115, t113, t114)) = some (r1, r2, r3) := H
  have A5 := Ax.mk A50
  clear A50
  simp only [Option.some.injEq, Prod.mk.injEq] at H
  obtain ⟨rfl, rfl, rfl⟩ := H
  go_enter Tryd.func40, Tryd.ntmps40
  go_wp2_with (first | ((with_reducible refine gate_callee (f := 39) rfl ?_); refine goesL_ (some 9) rfl rfl Tryd.func39 (by kernel_rfl) rfl #[.pointer (some ⟨g, 0, none⟩), .int .i64 (-1)] rfl (by (try simp only [List.map_toArray, List.map_cons, List.map_nil]); first | done | rfl | (simp only [List.length_drop, List.length_take]; rfl) | (rw [wrap_sum2 (by assumption)]; rfl)) ?_; (with_reducible refine (le_Reader_Text.calls g s0_0 s0_1 (-1) t112 t113 t114 w0 _ ?side1 ?side2 A4.out).mono ?_); (case side1 => repeat (first | (with_reducible first | exact HI0.out | apply IsS74.alloc | apply IsS74.drewN | apply IsS74.drew | apply IsS74.set_0 | apply IsS74.set_1) | exact HI0.out)); (case side2 => repeat (first | (with_reducible first | exact HB.out | apply below_alloc | apply pw_below_drewN | apply below_drew1 | refine below_set ?_ (IsS74.ge HI0.out)) | exact HB.out)); rintro e w6 ⟨rfl, hi, hb, hk⟩; refine ⟨_, rfl, ?_⟩; have n0_ := Ax.mk (KeepBut.trans (by repeat (first | (with_reducible first | exact HK.out | apply KeepBut.set_ | apply keep_drewN | apply keep_drew | apply keep_alloc) | exact HK.out)) hk (.inl rfl)); have n1_ := Ax.mk (hb); have n2_ := Ax.mk (hi); clear HK; clear HB; clear HI0; have HK := n0_; have HB := n1_; have HI0 := n2_; clear n0_ n1_ n2_; (try clear hb); (try clear hb2); (try clear hk); (try clear hi)) | ((with_reducible refine gate_callee (f := 54) rfl ?_); refine goesL_ (some 10) rfl rfl Tryd.func54 (by kernel_rfl) rfl #[.string t112] rfl (by (try simp only [List.map_toArray, List.map_cons, List.map_nil]); first | done | rfl | (simp only [List.length_drop, List.length_take]; rfl) | (rw [wrap_sum2 (by assumption)]; rfl)) ?_; (with_reducible refine (le_Get.calls t112 t115 _ A5.out).mono ?_); rintro e w7 ⟨rfl, hb⟩; refine ⟨_, rfl, ?_⟩; have n0_ := Ax.mk (IsS74.below (by repeat (first | (with_reducible first | exact HI0.out | apply IsS74.alloc | apply IsS74.drewN | apply IsS74.drew | apply IsS74.set_0 | apply IsS74.set_1) | exact HI0.out)) hb); have n1_ := Ax.mk (KeepBut.trans (by repeat (first | (with_reducible first | exact HK.out | apply KeepBut.set_ | apply keep_drewN | apply keep_drew | apply keep_alloc) | exact HK.out)) (KeepBut.of_below hb g none) (.inl rfl)); have n2_ := Ax.mk (bP (by repeat (first | (with_reducible first | exact HB.out | apply below_alloc | apply pw_below_drewN | apply below_drew1 | refine below_set ?_ (IsS74.ge HI0.out)) | exact HB.out)) hb); clear HI0; clear HK; clear HB; have HI0 := n0_; have HK := n1_; have HB := n2_; clear n0_ n1_ n2_; (try clear hb); (try clear hb2); (try clear hk); (try clear hi)))
  go_ret
  exact ⟨by first | rfl | (simp [errW_none, errW_some] <;> rfl) | (simp [*, errW_none, errW_some] <;> rfl), by repeat (first | (with_reducible first | exact HI0.out | apply IsS74.alloc | apply IsS74.drewN | apply IsS74.drew | apply IsS74.set_0 | apply IsS74.set_1) | exact HI0.out), by repeat (first | (with_reducible first | exact HB.out | apply below_alloc | apply pw_below_drewN | apply below_drew1 | refine below_set ?_ (IsS74.ge HI0.out)) | exact HB.out), by repeat (first | (with_reducible first | exact HK.out | apply KeepBut.set_ | apply keep_drewN | apply keep_drew | apply keep_alloc) | exact HK.out)⟩
 ·rw [if_neg c3] at H
  have c3b0 : decide (8 < a1) = false := decide_eq_false c3
  clear c3
  replace H := Option.bind_eq_some_iff.mp H
  obtain ⟨⟨t116, t117, t118⟩, A80, H⟩ := H
  replace H : ((le_Get.f t116).bind fun t119 => (some (t119, t117, t118))) = some (r1, r2, r3) := H
  have A8 := Ax.mk A80
  clear A80
  replace H := Option.bind_eq_some_iff.mp H
  obtain ⟨t119, A90, H⟩ := H
  replace H : (some (t119, t117, t118)) = some (r1, r2, r3) := H
  have A9 := Ax.mk A90
  clear A90
  simp only [Option.some.injEq, Prod.mk.injEq] at H
  obtain ⟨rfl, rfl, rfl⟩ := H
  go_enter Tryd.func40, Tryd.ntmps40
  go_wp2_with (first | ((with_reducible refine gate_callee (f := 39) rfl ?_); refine goesL_ (some 9) rfl rfl Tryd.func39 (by kernel_rfl) rfl #[.pointer (some ⟨g, 0, none⟩), .int .i64 a1] rfl (by (try simp only [List.map_toArray, List.map_cons, List.map_nil]); first | done | rfl | (simp only [List.length_drop, List.length_take]; rfl) | (rw [wrap_sum2 (by assumption)]; rfl)) ?_; (with_reducible refine (le_Reader_Text.calls g s0_0 s0_1 a1 t116 t117 t118 w0 _ ?side1 ?side2 A8.out).mono ?_); (case side1 => repeat (first | (with_reducible first | exact HI0.out | apply IsS74.alloc | apply IsS74.drewN | apply IsS74.drew | apply IsS74.set_0 | apply IsS74.set_1) | exact HI0.out)); (case side2 => repeat (first | (with_reducible first | exact HB.out | apply below_alloc | apply pw_below_drewN | apply below_drew1 | refine below_set ?_ (IsS74.ge HI0.out)) | exact HB.out)); rintro e w10 ⟨rfl, hi, hb, hk⟩; refine ⟨_, rfl, ?_⟩; have n0_ := Ax.mk (KeepBut.trans (by repeat (first | (with_reducible first | exact HK.out | apply KeepBut.set_ | apply keep_drewN | apply keep_drew | apply keep_alloc) | exact HK.out)) hk (.inl rfl)); have n1_ := Ax.mk (hb); have n2_ := Ax.mk (hi); clear HK; clear HB; clear HI0; have HK := n0_; have HB := n1_; have HI0 := n2_; clear n0_ n1_ n2_; (try clear hb); (try clear hb2); (try clear hk); (try clear hi)) | ((with_reducible refine gate_callee (f := 54) rfl ?_); refine goesL_ (some 10) rfl rfl Tryd.func54 (by kernel_rfl) rfl #[.string t116] rfl (by (try simp only [List.map_toArray, List.map_cons, List.map_nil]); first | done | rfl | (simp only [List.length_drop, List.length_take]; rfl) | (rw [wrap_sum2 (by assumption)]; rfl)) ?_; (with_reducible refine (le_Get.calls t116 t119 _ A9.out).mono ?_); rintro e w11 ⟨rfl, hb⟩; refine ⟨_, rfl, ?_⟩; have n0_ := Ax.mk (IsS74.below (by repeat (first | (with_reducible first | exact HI0.out | apply IsS74.alloc | apply IsS74.drewN | apply IsS74.drew | apply IsS74.set_0 | apply IsS74.set_1) | exact HI0.out)) hb); have n1_ := Ax.mk (KeepBut.trans (by repeat (first | (with_reducible first | exact HK.out | apply KeepBut.set_ | apply keep_drewN | apply keep_drew | apply keep_alloc) | exact HK.out)) (KeepBut.of_below hb g none) (.inl rfl)); have n2_ := Ax.mk (bP (by repeat (first | (with_reducible first | exact HB.out | apply below_alloc | apply pw_below_drewN | apply below_drew1 | refine below_set ?_ (IsS74.ge HI0.out)) | exact HB.out)) hb); clear HI0; clear HK; clear HB; have HI0 := n0_; have HK := n1_; have HB := n2_; clear n0_ n1_ n2_; (try clear hb); (try clear hb2); (try clear hk); (try clear hi)))
  go_ret
  exact ⟨by first | rfl | (simp [errW_none, errW_some] <;> rfl) | (simp [*, errW_none, errW_some] <;> rfl), by repeat (first | (with_reducible first | exact HI0.out | apply IsS74.alloc | apply IsS74.drewN | apply IsS74.drew | apply IsS74.set_0 | apply IsS74.set_1) | exact HI0.out), by repeat (first | (with_reducible first | exact HB.out | apply below_alloc | apply pw_below_drewN | apply below_drew1 | refine below_set ?_ (IsS74.ge HI0.out)) | exact HB.out), by repeat (first | (with_reducible first | exact HK.out | apply KeepBut.set_ | apply keep_drewN | apply keep_drew | apply keep_alloc) | exact HK.out)⟩
def r2_Get.l0 : Nat → ByteArray → Int → Int → Option (Int)
 | 0, _, _, _ => none
 | k + 1, x0, x3, x4 => if x4 ≥ 0 then (if 0 ≤ x4 then (if x4 < (x0.size : Int) then (r2_Get.l0 k x0 (IntKind.u64.wrap ((IntKind.u64.wrap (x3 * 256)) + (IntKind.u64.wrap (bt x0 x4)))) (wrap64 (x4 - 1))) else (none)) else (none)) else (some x3)
def r2_Get.f (k : Nat) (a0 : ByteArray) : Option (Int) := r2_Get.l0 k a0 0 ((mn (a0.size : Int) 8) - 1)
theorem r2_Get.mono_l : ∀ k, (∀ y0 y1 y2, LeO (r2_Get.l0 k y0 y1 y2) (r2_Get.l0 (k + 1) y0 y1 y2))
 | 0 => fun _ _ _ r h => by simp [r2_Get.l0] at h
 | k + 1 => by
  have ih0 := r2_Get.mono_l k
  ·intro y0 y1 y2
   unfold r2_Get.l0
   repeat' first
   | (with_reducible exact ih0 _ _ _)
   | (with_reducible exact LeO.refl _)
   | (with_reducible exact LeO.none _)
   | (with_reducible refine LeO.ite ?_ ?_)
   | (with_reducible refine LeO.bind ?_ (fun _ => ?_))
   | exact ih0 _ _ _
   | exact LeO.none _
   | refine LeO.ite ?_ ?_
   | refine LeO.bind ?_ (fun _ => ?_)
theorem r2_Get.mono : ∀ a0 k, LeO (r2_Get.f k a0) (r2_Get.f (k + 1) a0) := by
 intro a0 k
 have ih0 := r2_Get.mono_l k
 unfold r2_Get.f
 repeat' first
   | (with_reducible exact ih0 _ _ _)
   | (with_reducible exact LeO.refl _)
   | (with_reducible exact LeO.none _)
   | (with_reducible refine LeO.ite ?_ ?_)
   | (with_reducible refine LeO.bind ?_ (fun _ => ?_))
   | exact ih0 _ _ _
   | exact LeO.none _
   | refine LeO.ite ?_ ?_
   | refine LeO.bind ?_ (fun _ => ?_)
def r3_Take.f (k : Nat) (a0 : ByteArray) : Option (ByteArray × Int) := if (a0.size : Int) < 4 then (some ((⟨#[]⟩ : ByteArray), 10)) else (if 0 ≤ (wrap64 ((a0.size : Int) - 4)) then (if (wrap64 ((a0.size : Int) - 4)) ≤ (a0.size : Int) then ((r3_Put.f k (a0.extract 0 ((wrap64 ((a0.size : Int) - 4)) : Int).toNat)).bind fun t242 => (if t242.toList = a0.toList then (some (a0.extract 0 ((wrap64 ((a0.size : Int) - 4)) : Int).toNat, 0)) else (some ((⟨#[]⟩ : ByteArray), 9)))) else (none)) else (none))
theorem r3_Take.mono : ∀ a0 k, LeO (r3_Take.f k a0) (r3_Take.f (k + 1) a0) := by
 intro a0 k
 unfold r3_Take.f
 repeat' first
   | (with_reducible exact r3_Put.mono _ _)
   | (with_reducible exact LeO.refl _)
   | (with_reducible exact LeO.none _)
   | (with_reducible refine LeO.ite ?_ ?_)
   | (with_reducible refine LeO.bind ?_ (fun _ => ?_))
   | exact r3_Put.mono _ _
   | exact LeO.none _
   | refine LeO.ite ?_ ?_
   | refine LeO.bind ?_ (fun _ => ?_)
end Go.Proofs.YtcgejogmiglalaaDoor.Fn
end
section
namespace Go.Proofs.YtcgejogmiglalaaDoor.Fn
open Go.RowKit Go.Proofs.YtcgejogmiglalaaDoorW.PrintWords Go.Proofs.YtcgejogmiglalaaDoorW.PrintLast Go.Proofs.YtcgejogmiglalaaDoorW.PrintMore Go.Proofs.YtcgejogmiglalaaDoor.Lf
open List (setIfInBounds_toArray set_cons_zero set_cons_succ)
attribute [local go_sem] max2_int min2_int max_two min_two max_three min_three max_four min_four   -- for this text's walks alone
set_option linter.unusedVariables false
set_option linter.unusedSimpArgs false
def head_Take.l : Nat → ByteArray → Bool → List S53 → Option (List S53 × ByteArray × Bool)
 | 0, left, bad, acc => some (acc, left, bad)
 | n + 1, left, bad, acc => (le_Reader_Number.f left bad 2).bind fun a => (le_Reader_Number.f a.2.1 a.2.2 2).bind fun b => head_Take.l n b.2.1 b.2.2 (acc ++ [⟨wrap64 a.1, wrap64 b.1⟩])
def head_Take.m (k : Nat) (nm : ByteArray) (g sc sz : Int) (l : List S53) (left : ByteArray) (bad : Bool) : Option (Int × Int × Int × List S53 × Int) :=
 if bad = true then some (0, 0, 0, [], 2) else if nm.toList = [114, 116, 99, 108] then (if (Lib.trimB left.data.toList 0) = [] then (head_Right.f k g sc sz l).bind fun ok => if ok = true then some (g, sc, sz, l, 0) else some (0, 0, 0, [], 2) else some (0, 0, 0, [], 2)) else some (0, 0, 0, [], 2)
def head_Take.f (k : Nat) (s : ByteArray) : Option (Int × Int × Int × List S53 × Int) :=
 if s.size = 64 then (seal_Take.f s).bind fun t => if t.2 = 0 then
  (le_Reader_Text.f t.1 false 4).bind fun nm => (le_Reader_Number.f nm.2.1 nm.2.2 8).bind fun g => (le_Reader_Number.f g.2.1 g.2.2 2).bind fun sc => (le_Reader_Number.f sc.2.1 sc.2.2 4).bind fun sz => (le_Reader_Number.f sz.2.1 sz.2.2 1).bind fun mn =>
   if 0 ≤ mn.1 ∧ mn.1 < 256 ∧ mn.2.1.size ≤ 1000 then (head_Take.l mn.1.toNat mn.2.1 mn.2.2 []).bind fun lp => if lp.2.1.size ≤ 1000 then head_Take.m k nm.1 g.1 (wrap64 sc.1) (wrap64 sz.1) lp.1 lp.2.1 lp.2.2 else none else none
  else some (0, 0, 0, [], t.2) else some (0, 0, 0, [], 1)
theorem head_Take.mono : ∀ a0 k, LeO (head_Take.f k a0) (head_Take.f (k + 1) a0) := by
 intro a0 k
 have hm : ∀ nm g sc sz l left bad, LeO (head_Take.m k nm g sc sz l left bad) (head_Take.m (k + 1) nm g sc sz l left bad) := fun nm g sc sz l left bad => by
  unfold head_Take.m
  exact LeO.ite (LeO.refl _) (LeO.ite (LeO.ite (LeO.bind (head_Right.mono _ _ _ _ k) (fun _ => LeO.refl _)) (LeO.refl _)) (LeO.refl _))
 unfold head_Take.f
 refine LeO.ite (LeO.bind (LeO.refl _) (fun _ => LeO.ite (LeO.bind (LeO.refl _) (fun _ => LeO.bind (LeO.refl _) (fun _ => LeO.bind (LeO.refl _) (fun _ => LeO.bind (LeO.refl _) (fun _ => LeO.bind (LeO.refl _) (fun _ => LeO.ite (LeO.bind (LeO.refl _) (fun _ => LeO.ite (hm _ _ _ _ _ _ _) (LeO.refl _))) (LeO.refl _))))))) (LeO.refl _))) (LeO.refl _)
theorem ht_keep {w w1 : World} {g k : Nat} {o : Obj} (hk : KeepBut w w1 g none) (h : w.heap[k]? = some o) (hne : k ≠ g) : w1.heap[k]? = some o := by
 have hlt : k < w.heap.size := (Array.getElem?_eq_some_iff.1 h).1
 rw [hk.2 k hlt hne (by simp)]; exact h
def HtH (w : World) (g sc sz : Int) (v : Value) (er : Int) (W : World) : Prop :=
 W.heap[w.heap.size]? = some (.cells #[.int .u64 g, .int .i64 sc, .int .i64 sz, v] 25 (0, 0)) ∧ W.heap[w.heap.size + 1]? = some (.cells #[.int .i64 er] 27 (0, 0))
def HtR (w : World) (r1 r2 r3 : Int) (r4 : List S53) (r5 : Int) : Ending → World → Prop := fun e w' => ∃ v1_ : Value, e = .returned (.tuple #[.agg #[.int .u64 r1, .int .i64 r2, .int .i64 r3, v1_], .int .i64 r5]) ∧ Kd.R k53 53 w' w.heap.size (fun _ => True) v1_ r4 ∧ Below w.heap.size w w'
theorem ht_results {w W : World} {tmps : Array Value} {g sc sz er : Int} {v : Value} (h2 : tmps.getD 2 undef = .pointer (some ⟨w.heap.size, 0, none⟩)) (h3 : tmps.getD 3 undef = .pointer (some ⟨w.heap.size + 1, 0, none⟩)) (hH : HtH w g sc sz v er W) :
  (results Tryd.f16 tmps).run Tryd.prog W = .ok (.tuple #[.agg #[.int .u64 g, .int .i64 sc, .int .i64 sz, v], .int .i64 er]) W := by
 have h2' : tmps[2]?.getD undef = .pointer (some ⟨w.heap.size, 0, none⟩) := by simpa using h2
 have h3' : tmps[3]?.getD undef = .pointer (some ⟨w.heap.size + 1, 0, none⟩) := by simpa using h3
 have c0 : W.cell? ⟨w.heap.size, 0, none⟩ = some (.int .u64 g) := (bC hH.1 0).trans rfl
 have c1 : W.cell? ⟨w.heap.size, 1, none⟩ = some (.int .i64 sc) := (bC hH.1 1).trans rfl
 have c2 : W.cell? ⟨w.heap.size, 2, none⟩ = some (.int .i64 sz) := (bC hH.1 2).trans rfl
 have c3 : W.cell? ⟨w.heap.size, 3, none⟩ = some v := (bC hH.1 3).trans rfl
 have hc : W.cell? ⟨w.heap.size + 1, 0, none⟩ = some (.int .i64 er) := (bC hH.2 0).trans rfl
 simp [results, Tryd.results16, h2', h3', asAddr, c0, c1, c2, c3, hc, go_sem]
theorem ht_facts {w W : World} {g sc sz er : Int} {v : Value} (hH : HtH w g sc sz v er W) : (W.cell? ⟨w.heap.size, 0, none⟩ = some (.int .u64 g) ∧ W.cell? ⟨w.heap.size, 1, none⟩ = some (.int .i64 sc) ∧ W.cell? ⟨w.heap.size, 2, none⟩ = some (.int .i64 sz) ∧ W.cell? ⟨w.heap.size, 3, none⟩ = some v ∧ W.cell? ⟨w.heap.size + 1, 0, none⟩ = some (.int .i64 er)) ∧
  (W.frozen? ⟨w.heap.size, 0, none⟩ = false ∧ W.frozen? ⟨w.heap.size, 1, none⟩ = false ∧ W.frozen? ⟨w.heap.size, 2, none⟩ = false ∧ W.frozen? ⟨w.heap.size, 3, none⟩ = false ∧ W.frozen? ⟨w.heap.size + 1, 0, none⟩ = false) :=
 ⟨⟨(bC hH.1 0).trans rfl, (bC hH.1 1).trans rfl, (bC hH.1 2).trans rfl, (bC hH.1 3).trans rfl, (bC hH.2 0).trans rfl⟩, ⟨bF hH.1 0, bF hH.1 1, bF hH.1 2, bF hH.1 3, bF hH.2 0⟩⟩
theorem ht_below {w W W' : World} {g sc sz er : Int} {v : Value} (hH : HtH w g sc sz v er W) (hb : Below W.heap.size W W') : HtH w g sc sz v er W' := ⟨bB hH.1 hb, bB hH.2 hb⟩
theorem ht_start (w : World) : HtH w 0 0 0 (.slice none 0 0) 0 ((w.alloc (.cells #[.int .u64 0, .int .i64 0, .int .i64 0, .slice none 0 0] 25)).alloc (.cells #[.int .i64 0] 27)) :=
 ⟨blk_alloc (heap_alloc_new w _) _, by have h := heap_alloc_new (w.alloc (.cells #[.int .u64 0, .int .i64 0, .int .i64 0, .slice none 0 0] 25)) (.cells #[.int .i64 0] 27); rwa [World.size_alloc] at h⟩
theorem ht_drew {w W : World} {g sc sz er : Int} {v : Value} (hH : HtH w g sc sz v er W) : HtH w g sc sz v er W.drew := ⟨hH.1, hH.2⟩
theorem ht_err {w W : World} {g sc sz er : Int} {v : Value} (hH : HtH w g sc sz v er W) (er' : Int) : HtH w g sc sz v er' (W.setCell ⟨w.heap.size + 1, 0, none⟩ (.int .i64 er')) :=
 ⟨bR (p := ⟨w.heap.size + 1, 0, none⟩) hH.1 (show w.heap.size ≠ w.heap.size + 1 by omega) _, bU (cs := #[.int .i64 er]) hH.2 0 _ rfl⟩
theorem ht_head {w W : World} {g sc sz er : Int} {v : Value} (hH : HtH w g sc sz v er W) (g' sc' sz' : Int) (v' : Value) :
  HtH w g' sc' sz' v' er ((((W.setCell ⟨w.heap.size, 0, none⟩ (.int .u64 g')).setCell ⟨w.heap.size, 1, none⟩ (.int .i64 sc')).setCell ⟨w.heap.size, 2, none⟩ (.int .i64 sz')).setCell ⟨w.heap.size, 3, none⟩ v') := by
 refine ⟨?_, ?_⟩
 ·exact bU (cs := #[.int .u64 g', .int .i64 sc', .int .i64 sz', v]) (bU (cs := #[.int .u64 g', .int .i64 sc', .int .i64 sz, v]) (bU (cs := #[.int .u64 g', .int .i64 sc, .int .i64 sz, v]) (bU (cs := #[.int .u64 g, .int .i64 sc, .int .i64 sz, v]) hH.1 0 _ rfl) 1 _ rfl) 2 _ rfl) 3 _ rfl
 ·have hne : w.heap.size + 1 ≠ w.heap.size := by omega
  exact bR (p := ⟨w.heap.size, 3, none⟩) (bR (p := ⟨w.heap.size, 2, none⟩) (bR (p := ⟨w.heap.size, 1, none⟩) (bR (p := ⟨w.heap.size, 0, none⟩) hH.2 hne _) hne _) hne _) hne _
theorem ht_headB {w W : World} {g sc sz : Int} {v : Value} (hB : Below w.heap.size w W) : Below w.heap.size w ((((W.setCell ⟨w.heap.size, 0, none⟩ (.int .u64 g)).setCell ⟨w.heap.size, 1, none⟩ (.int .i64 sc)).setCell ⟨w.heap.size, 2, none⟩ (.int .i64 sz)).setCell ⟨w.heap.size, 3, none⟩ v) :=
 below_set (below_set (below_set (below_set hB (Nat.le_refl _)) (Nat.le_refl _)) (Nat.le_refl _)) (Nat.le_refl _)
set_option maxHeartbeats 8000000 in
set_option maxRecDepth 100000 in
theorem head_Take.size (s : ByteArray) (w : World) (h : s.size ≠ 64) : Calls Tryd.prog 16 #[.string s] w (HtR w 0 0 0 [] 1) := by
 have c1 : ((s.size : Int) == 64) = false := beq_eq_false_iff_ne.mpr (by omega)
 have c2 : ((s.size : Int) != 64) = true := bne_iff_ne.mpr (by omega)
 clear h
 go_enter_defers Tryd.func16, Tryd.ntmps16
 go_wp2
 have hH : HtH w 0 0 0 (.slice none 0 0) 1 ((w.alloc (.cells #[.int .u64 0, .int .i64 0, .int .i64 0, .slice none 0 0] 25)).alloc (.cells #[.int .i64 1] 27)) :=
  ⟨blk_alloc (heap_alloc_new w _) _, by have h := heap_alloc_new (w.alloc (.cells #[.int .u64 0, .int .i64 0, .int .i64 0, .slice none 0 0] 25)) (.cells #[.int .i64 1] 27); rwa [World.size_alloc] at h⟩
 exact ⟨_, ht_results rfl rfl hH, _, rfl, Kd.R_nil _ _ _ _ _, below_alloc (below_alloc (Below.refl _ _) _) _⟩
set_option maxHeartbeats 8000000 in
set_option maxRecDepth 100000 in
theorem head_Take.seal (s t : ByteArray) (er : Int) (w : World) (h : s.size = 64) (ht : seal_Take.f s = some (t, er)) (he : er ≠ 0) : Calls Tryd.prog 16 #[.string s] w (HtR w 0 0 0 [] er) := by
 have c1 : ((s.size : Int) == 64) = true := beq_iff_eq.mpr (by omega)
 have c2 : ((s.size : Int) != 64) = false := bne_eq_false_iff_eq.mpr (by omega)
 have c3 : (er == 0) = false := beq_eq_false_iff_ne.mpr he
 have c4 : (er != 0) = true := bne_iff_ne.mpr he
 have HT := Ax.mk ht
 have hH0 := ht_start w
 have hB0 := below_alloc (below_alloc (Below.refl w.heap.size w) (.cells #[.int .u64 0, .int .i64 0, .int .i64 0, .slice none 0 0] 25)) (.cells #[.int .i64 0] 27)
 have HH0 := Ax.mk hH0
 have HB0 := Ax.mk hB0
 clear h ht he hH0 hB0
 go_enter_defers Tryd.func16, Tryd.ntmps16
 go_wp2_with (first | (go_at_call 37; fail))
 refine (seal_Take.calls s t er _ HT.out).mono ?_
 rintro e W1 ⟨rfl, hb1⟩
 have hH1 := ht_below HH0.out hb1
 have HH1 := Ax.mk hH1
 have HB1 := Ax.mk (bP HB0.out hb1)
 obtain ⟨⟨h0, h1, h2, h3, h4⟩, f0, f1, f2, f3, f4⟩ := ht_facts hH1
 clear hH1 hb1
 go_wp2
 go_region
 all_goals go_wp2
 all_goals exact ⟨_, ht_results rfl rfl (ht_drew (ht_err (ht_head (ht_err HH1.out er) 0 0 0 (.slice none 0 0)) er)), _, rfl, Kd.R_nil _ _ _ _ _, below_drew1 (below_set (ht_headB (below_set HB1.out (Nat.le_succ _))) (Nat.le_succ _))⟩
set_option maxHeartbeats 4000000 in
set_option maxRecDepth 100000 in
theorem head_Take.doorOk (w W : World) (g sc sz : Int) (v : Value) (hH : HtH w g sc sz v 0 W) : CallsD Tryd.prog 38 #[.pointer (some ⟨w.heap.size + 1, 0, none⟩), .pointer (some ⟨w.heap.size, 0, none⟩)] .returning W fun e u' w' => u' = .returning ∧ e = .returned (.tuple #[]) ∧ W = w' := by
 obtain ⟨⟨h0, h1, h2, h3, h4⟩, f0, f1, f2, f3, f4⟩ := ht_facts hH
 clear hH h0 h1 h2 h3 f0 f1 f2 f3 f4
 go_enter_d Tryd.func38, Tryd.ntmps38
 go_wp2
 go_end0
 exact ⟨rfl, rfl⟩
set_option maxHeartbeats 4000000 in
set_option maxRecDepth 100000 in
theorem head_Take.doorNo (w W : World) (g sc sz er : Int) (v : Value) (he : er ≠ 0) (hH : HtH w g sc sz v er W) : CallsD Tryd.prog 38 #[.pointer (some ⟨w.heap.size + 1, 0, none⟩), .pointer (some ⟨w.heap.size, 0, none⟩)] .returning W fun e u' w' => u' = .returning ∧ e = .returned (.tuple #[]) ∧
  w' = (((W.setCell ⟨w.heap.size, 0, none⟩ (.int .u64 0)).setCell ⟨w.heap.size, 1, none⟩ (.int .i64 0)).setCell ⟨w.heap.size, 2, none⟩ (.int .i64 0)).setCell ⟨w.heap.size, 3, none⟩ (.slice none 0 0) := by
 obtain ⟨⟨h0, h1, h2, h3, h4⟩, f0, f1, f2, f3, f4⟩ := ht_facts hH
 have c3 : (er == 0) = false := beq_eq_false_iff_ne.mpr he
 have c4 : (er != 0) = true := bne_iff_ne.mpr he
 clear hH he
 go_enter_d Tryd.func38, Tryd.ntmps38
 go_wp2
 go_end0
 exact ⟨rfl, rfl⟩
theorem ht_doorOk {w W : World} {tmps : Array Value} {g sc sz : Int} {v : Value} {l : List S53} {ok : Nat → Prop} (h2 : tmps.getD 2 undef = .pointer (some ⟨w.heap.size, 0, none⟩)) (h3 : tmps.getD 3 undef = .pointer (some ⟨w.heap.size + 1, 0, none⟩)) (hH : HtH w g sc sz v 0 W)
  (hR : Kd.R k53 53 W w.heap.size ok v l) (hB : Below w.heap.size w W) :
  Leaves Tryd.prog Tryd.f16 tmps (HtR w g sc sz l 0) [{ target := .fn (.func 38) #[.pointer (some ⟨w.heap.size + 1, 0, none⟩), .pointer (some ⟨w.heap.size, 0, none⟩)], args := #[] }] .returning W := by
 refine leaves_cons (f := 38) (args := #[.pointer (some ⟨w.heap.size + 1, 0, none⟩), .pointer (some ⟨w.heap.size, 0, none⟩)]) (by simp) (by simp [go_sem]) ?_
 refine (head_Take.doorOk w W g sc sz v hH).mono ?_
 rintro e u' w' ⟨rfl, rfl, rfl⟩
 exact ⟨_, ht_results h2 h3 hH, _, rfl, Kd.R_mono hR (fun _ _ => trivial), hB⟩
theorem ht_doorNo {w W : World} {tmps : Array Value} {g sc sz er : Int} {v : Value} (he : er ≠ 0) (h2 : tmps.getD 2 undef = .pointer (some ⟨w.heap.size, 0, none⟩)) (h3 : tmps.getD 3 undef = .pointer (some ⟨w.heap.size + 1, 0, none⟩)) (hH : HtH w g sc sz v er W)
  (hB : Below w.heap.size w W) :
  Leaves Tryd.prog Tryd.f16 tmps (HtR w 0 0 0 [] er) [{ target := .fn (.func 38) #[.pointer (some ⟨w.heap.size + 1, 0, none⟩), .pointer (some ⟨w.heap.size, 0, none⟩)], args := #[] }] .returning W := by
 refine leaves_cons (f := 38) (args := #[.pointer (some ⟨w.heap.size + 1, 0, none⟩), .pointer (some ⟨w.heap.size, 0, none⟩)]) (by simp) (by simp [go_sem]) ?_
 refine (head_Take.doorNo w W g sc sz er v he hH).mono ?_
 rintro e u' w' ⟨rfl, rfl, rfl⟩
 exact ⟨_, ht_results h2 h3 (ht_head hH 0 0 0 (.slice none 0 0)), _, rfl, Kd.R_nil _ _ _ _ _, ht_headB hB⟩
theorem ht_keepH {w W W' : World} {g sc sz er : Int} {v : Value} {G : Nat} (hH : HtH w g sc sz v er W) (hk : KeepBut W W' G none) (hG : w.heap.size + 1 < G) : HtH w g sc sz v er W' := ⟨ht_keep hk hH.1 (by omega), ht_keep hk hH.2 (by omega)⟩
theorem ht_span {w W : World} {g sc sz er : Int} {v : Value} (hH : HtH w g sc sz v er W) (v' : Value) : HtH w g sc sz v' er (W.setCell ⟨w.heap.size, 3, none⟩ v') :=
 ⟨bU (cs := #[.int .u64 g, .int .i64 sc, .int .i64 sz, v]) hH.1 3 _ rfl, bR (p := ⟨w.heap.size, 3, none⟩) hH.2 (show w.heap.size + 1 ≠ w.heap.size by omega) _⟩
theorem ht_headR {w W : World} {g sc sz er : Int} {v u : Value} {l : List S53} (hR : Kd.R k53 53 W w.heap.size (fun _ => True) u l) (hH : HtH w g sc sz v er W) (v0 v1 v2 v3 v4 : Value) :
  Kd.R k53 53 (((((W.setCell ⟨w.heap.size, 0, none⟩ v0).setCell ⟨w.heap.size, 1, none⟩ v1).setCell ⟨w.heap.size, 2, none⟩ v2).setCell ⟨w.heap.size, 3, none⟩ v3).setCell ⟨w.heap.size + 1, 0, none⟩ v4) w.heap.size (fun _ => True) u l :=
 Kd.R_mono (Kd.R_far (p := ⟨w.heap.size + 1, 0, none⟩) (Kd.R_far (p := ⟨w.heap.size, 3, none⟩) (Kd.R_far (p := ⟨w.heap.size, 2, none⟩) (Kd.R_far (p := ⟨w.heap.size, 1, none⟩) (Kd.R_far (p := ⟨w.heap.size, 0, none⟩) (Kd.R_types (Kd.R_types hR hH.1 (by decide)) hH.2 (by decide)) (fun _ hk => hk.1.2) v0) (fun _ hk => hk.1.2) v1) (fun _ hk => hk.1.2) v2) (fun _ hk => hk.1.2) v3) (fun _ hk => hk.2) v4) (fun _ _ => trivial)
theorem ht_headJ {w W : World} {G : Nat} {l : ByteArray} {b : Bool} (h : IsS74 w W G l b) (hne : G ≠ w.heap.size) (g sc sz : Int) (v : Value) :
  IsS74 w ((((W.setCell ⟨w.heap.size, 0, none⟩ (.int .u64 g)).setCell ⟨w.heap.size, 1, none⟩ (.int .i64 sc)).setCell ⟨w.heap.size, 2, none⟩ (.int .i64 sz)).setCell ⟨w.heap.size, 3, none⟩ v) G l b :=
 ⟨bR (p := ⟨w.heap.size, 3, none⟩) (bR (p := ⟨w.heap.size, 2, none⟩) (bR (p := ⟨w.heap.size, 1, none⟩) (bR (p := ⟨w.heap.size, 0, none⟩) h.1 hne _) hne _) hne _) hne _, h.2⟩
theorem ht_keepR {w W W' : World} {v : Value} {l : List S53} {G : Nat} {f0 : ByteArray} {f1 : Bool} (hR : Kd.R k53 53 W w.heap.size (fun _ => True) v l) (hJ : IsS74 w W G f0 f1) (hk : KeepBut W W' G none) : Kd.R k53 53 W' w.heap.size (fun _ => True) v l :=
 Kd.R_mono (Kd.R_keep (hJ.apart hR (by decide)) hk (fun _ hk => hk.2)) (fun _ _ => trivial)
set_option maxHeartbeats 16000000 in
set_option maxRecDepth 100000 in
theorem head_Take.main (k : Nat) (s t nm l1 : ByteArray) (b1 : Bool) (g : Int) (l2 : ByteArray) (b2 : Bool) (sc : Int) (l3 : ByteArray) (b3 : Bool) (sz : Int) (l4 : ByteArray) (b4 : Bool) (mn : Nat) (l5 : ByteArray) (b5 : Bool) (ls : List S53) (l6 : ByteArray) (b6 : Bool) (r1 r2 r3 : Int) (r4 : List S53) (r5 : Int) (w : World) (h : s.size = 64) (ht : seal_Take.f s = some (t, 0))
  (a1 : le_Reader_Text.f t false 4 = some (nm, l1, b1)) (a2 : le_Reader_Number.f l1 b1 8 = some (g, l2, b2)) (a3 : le_Reader_Number.f l2 b2 2 = some (sc, l3, b3)) (a4 : le_Reader_Number.f l3 b3 4 = some (sz, l4, b4)) (a5 : le_Reader_Number.f l4 b4 1 = some ((mn : Int), l5, b5))
  (hmn : mn < 256) (a6 : head_Take.l mn l5 b5 [] = some (ls, l6, b6)) (hl6 : l6.size ≤ 1000) (a7 : head_Take.m k nm g (wrap64 sc) (wrap64 sz) ls l6 b6 = some (r1, r2, r3, r4, r5)) : Calls Tryd.prog 16 #[.string s] w (HtR w r1 r2 r3 r4 r5) := by
 have c1 : ((s.size : Int) == 64) = true := beq_iff_eq.mpr (by omega)
 have c2 : ((s.size : Int) != 64) = false := bne_eq_false_iff_eq.mpr (by omega)
 have HT := Ax.mk ht
 have A1 := Ax.mk a1
 have A2 := Ax.mk a2
 have A3 := Ax.mk a3
 have A4 := Ax.mk a4
 have A5 := Ax.mk a5
 have A6 := Ax.mk a6
 have A7 := Ax.mk a7
 have HMN := Ax.mk hmn
 have HL6 := Ax.mk hl6
 have hH0 := ht_start w
 have hB0 := below_alloc (below_alloc (Below.refl w.heap.size w) (.cells #[.int .u64 0, .int .i64 0, .int .i64 0, .slice none 0 0] 25)) (.cells #[.int .i64 0] 27)
 have HH0 := Ax.mk hH0
 have HB0 := Ax.mk hB0
 clear h ht hH0 hB0 a1 a2 a3 a4 a5 a6 a7 hmn hl6
 have hmf : ∀ (fn : Fn) (first cap : Array Value) (w : World), (Instr.makeFunc fn first cap).run Tryd.prog w = .ok (.func fn first cap) w := fun _ _ _ _ => rfl
 go_enter_defers Tryd.func16, Tryd.ntmps16
 go_wp2_with (first | (go_at_call 37; fail))
 refine (seal_Take.calls s t 0 _ HT.out).mono ?_
 rintro e W1 ⟨rfl, hb1⟩
 have hH1 := ht_below HH0.out hb1
 have HH1 := Ax.mk (ht_err hH1 0)
 have HB1 := Ax.mk (show Below w.heap.size w (W1.setCell ⟨w.heap.size + 1, 0, none⟩ (.int .i64 0)) from below_set (bP HB0.out hb1) (Nat.le_succ _))
 obtain ⟨⟨h0, h1, h2, h3, h4⟩, f0, f1, f2, f3, f4⟩ := ht_facts hH1
 have HGL := Ax.mk (show w.heap.size + 1 < W1.heap.size from (Array.getElem?_eq_some_iff.1 hH1.2).1)
 clear hH1 hb1
 go_wp2_with (first | (go_at_call 39; fail))
 clear h0 h1 h2 h3 h4 f0 f1 f2 f3 f4
 have J0 := IsS74.new w (W1.setCell ⟨w.heap.size + 1, 0, none⟩ (.int .i64 0)) t false HB1.out
 rw [show (W1.setCell ⟨w.heap.size + 1, 0, none⟩ (.int .i64 0)).heap.size = W1.heap.size by simp] at J0
 have D0 := below_alloc HB1.out (.cells #[.string t, .bool false] 74)
 have X0 := ht_below HH1.out (below_alloc (Below.refl _ _) (.cells #[.string t, .bool false] 74))
 have hGL := HGL.out
 clear HGL
 generalize (W1.setCell ⟨w.heap.size + 1, 0, none⟩ (.int .i64 0)).alloc (.cells #[.string t, .bool false] 74) = v0 at J0 D0 X0 ⊢
 generalize W1.heap.size = G at J0 hGL ⊢
 have HGL := Ax.mk hGL
 clear hGL HH1 HB1 HH0 HB0
 refine (le_Reader_Text.calls G t false 4 nm l1 b1 w _ J0 D0 A1.out).mono ?_
 rintro e v1 ⟨rfl, hJ, hD, hK⟩
 have J1 := Ax.mk hJ
 have D1 := Ax.mk hD
 have X1 := Ax.mk (ht_keepH X0 hK HGL.out)
 clear hJ hD hK J0 D0 X0
 go_wp2_with (first | (go_at_call 40; fail))
 refine (le_Reader_Number.calls G l1 b1 8 g l2 b2 w _ J1.out D1.out A2.out).mono ?_
 rintro e v2 ⟨rfl, hJ, hD, hK⟩
 have J2 := Ax.mk hJ
 have D2 := Ax.mk hD
 have X2 := Ax.mk (ht_keepH X1.out hK HGL.out)
 clear hJ hD hK J1 D1 X1
 go_wp2_with (first | (go_at_call 40; fail))
 refine (le_Reader_Number.calls G l2 b2 2 sc l3 b3 w _ J2.out D2.out A3.out).mono ?_
 rintro e v3 ⟨rfl, hJ, hD, hK⟩
 have J3 := Ax.mk hJ
 have D3 := Ax.mk hD
 have X3 := Ax.mk (ht_keepH X2.out hK HGL.out)
 clear hJ hD hK J2 D2 X2
 go_wp2_with (first | (go_at_call 40; fail))
 refine (le_Reader_Number.calls G l3 b3 4 sz l4 b4 w _ J3.out D3.out A4.out).mono ?_
 rintro e v4 ⟨rfl, hJ, hD, hK⟩
 have J4 := Ax.mk hJ
 have D4 := Ax.mk hD
 have hX4 := ht_keepH X3.out hK HGL.out
 obtain ⟨⟨h0, h1, h2, h3, h4⟩, f0, f1, f2, f3, f4⟩ := ht_facts hX4
 have X4 := Ax.mk hX4
 clear hJ hD hK hX4 J3 D3 X3
 go_wp2_with (first | (go_at_call 40; fail))
 clear h0 h1 h2 h3 h4 f0 f1 f2 f3 f4
 have X5 := ht_head X4.out g (wrap64 sc) (wrap64 sz) (.slice none 0 0)
 have D5 := ht_headB (g := g) (sc := wrap64 sc) (sz := wrap64 sz) (v := .slice none 0 0) D4.out
 have hne : G ≠ w.heap.size := by have := HGL.out; omega
 have J5 := ht_headJ J4.out hne g (wrap64 sc) (wrap64 sz) (.slice none 0 0)
 clear J4 D4 X4 hne
 generalize (((v4.setCell ⟨w.heap.size, 0, none⟩ (.int .u64 g)).setCell ⟨w.heap.size, 1, none⟩ (.int .i64 (wrap64 sc))).setCell ⟨w.heap.size, 2, none⟩ (.int .i64 (wrap64 sz))).setCell ⟨w.heap.size, 3, none⟩ (.slice none 0 0) = v5 at X5 D5 J5 ⊢
 generalize wrap64 sc = sc1 at X5 A7 ⊢
 generalize wrap64 sz = sz1 at X5 A7 ⊢
 refine (le_Reader_Number.calls G l4 b4 1 (mn : Int) l5 b5 w _ J5 D5 A5.out).mono ?_
 rintro e v6 ⟨rfl, hJ, hD, hK⟩
 have J6 := Ax.mk hJ
 have D6 := Ax.mk hD
 have X6 := Ax.mk (ht_keepH X5 hK HGL.out)
 clear hJ hD hK J5 D5 X5
 go_wp2
 go_loopw [37] (fun v37 wr => ∃ (j : Nat) (acc : List S53) (left : ByteArray) (bad : Bool) (v : Value), v37 = .int .u64 (j : Int) ∧ j ≤ mn ∧ Ax (head_Take.l (mn - j) left bad acc = some (ls, l6, b6)) ∧ Ax (acc.length = j) ∧ Ax (IsS74 w wr G left bad) ∧ Ax (Below w.heap.size w wr) ∧ Ax (HtH w g sc1 sz1 v 0 wr) ∧ Ax (Kd.R k53 53 wr w.heap.size (fun _ => True) v acc)) (fun v37 _ => mn - (intOf v37).toNat)
 case atStart => exact ⟨0, [], l5, b5, .slice none 0 0, rfl, Nat.zero_le _, A6, ⟨rfl⟩, J6, D6, X6, ⟨Kd.R_nil _ _ _ _ _⟩⟩
 case round =>
 clear J6 D6 X6 A6
 obtain ⟨j, acc, left, bad, v, rfl, hj, HG, HAL, J, B, H, R⟩ := hrel
 by_cases hlt : j < mn
 ·have HLT := Ax.mk hlt
  have hG := HG.out
  rw [show mn - j = (mn - (j + 1)) + 1 by omega, head_Take.l] at hG
  clear HG
  replace hG := Option.bind_eq_some_iff.1 hG
  obtain ⟨⟨x1, q1, d1⟩, hp1, hG⟩ := hG
  replace hG := Option.bind_eq_some_iff.1 hG
  obtain ⟨⟨x2, q2, d2⟩, hp2, hG⟩ := hG
  have P1 := Ax.mk hp1
  have P2 := Ax.mk hp2
  have HG := Ax.mk hG
  have hjb : j ≤ 1000 := by have := HMN.out; omega
  clear hp1 hp2 hG
  obtain ⟨⟨_, _, _, hv3, _⟩, _⟩ := ht_facts H.out
  go_wp2
  refine wp_region_noPanic ?_
  refine start_ (n := 13) (S := fun w' => w'.cell? ⟨w.heap.size, 3, none⟩ = some v) (ds := [12]) #[false, false, false, false, false, false, false, false, false, false, false, false, false] (by kernel_rfl) rfl rfl hv3 (fun hHeld => ?_)
  refine pure_ (i := 0) (N := some 39) (v := ?_) (a' := ?_) #[true, false, false, false, false, false, false, false, false, false, false, false, false] rfl rfl (by kernel_rfl) (fun _ _ _ h => h) (Or.inl ⟨by rfl, ?_⟩) ?_ ?_
  rotate_left
  ·intro w'
   go_simp
   with_reducible rfl
  rotate_left
  ·simp only [Act.put, setIfInBounds_toArray, set_cons_zero, set_cons_succ, i64_w, i32_w]
   rfl
  refine take_ (i := 1) (N := some 40) (v := ?_) (a' := ?_) #[true, true, false, false, false, false, false, false, false, false, false, false, false] rfl rfl (by kernel_rfl) (fun _ _ _ h => h) (Or.inl ⟨by rfl, ?_⟩) hHeld ?_ ?_
  rotate_left
  ·rintro w' hs0
   go_simp
   with_reducible rfl
  rotate_left
  ·simp only [Act.put, setIfInBounds_toArray, set_cons_zero, set_cons_succ, i64_w, i32_w]
   rfl
  refine pure_ (i := 2) (N := some 41) (v := ?_) (a' := ?_) #[true, true, true, false, false, false, false, false, false, false, false, false, false] rfl rfl (by kernel_rfl) (fun _ _ _ h => h) (Or.inl ⟨by rfl, ?_⟩) ?_ ?_
  rotate_left
  ·intro w'
   go_simp
   with_reducible rfl
  rotate_left
  ·simp only [Act.put, setIfInBounds_toArray, set_cons_zero, set_cons_succ, i64_w, i32_w]
   rfl
  refine pure_ (i := 5) (N := some 44) (v := ?_) (a' := ?_) #[true, true, true, false, false, true, false, false, false, false, false, false, false] rfl rfl (by kernel_rfl) (fun _ _ _ h => h) (Or.inl ⟨by rfl, ?_⟩) ?_ ?_
  rotate_left
  ·intro w'
   go_simp
   with_reducible rfl
  rotate_left
  ·simp only [Act.put, setIfInBounds_toArray, set_cons_zero, set_cons_succ, i64_w, i32_w]
   rfl
  generalize hwd : wr.drew = wd at hHeld ⊢
  have JD := Ax.mk (show IsS74 w wd G left bad from hwd ▸ J.out)
  have BD := Ax.mk (show Below w.heap.size w wd from hwd ▸ below_drew1 B.out)
  have HD := Ax.mk (show HtH w g sc1 sz1 v 0 wd from hwd ▸ ht_drew H.out)
  have RD := Ax.mk (show Kd.R k53 53 wd w.heap.size (fun _ => True) v acc from hwd ▸ Kd.R_drew R.out)
  clear J B H R hv3 hwd
  refine one_ (i := 3) (N := some 42) #[true, true, true, true, false, true, false, false, false, false, false, false, false] rfl rfl (by kernel_rfl) (by decide) (fun K hK => ?_)
  refine goes_ Tryd.func40 (by kernel_rfl) rfl #[.pointer (some ⟨G, 0, none⟩), .int .i64 2] (by rfl) rfl rfl (by (try simp only [List.map_toArray, List.map_cons, List.map_nil]); rfl) ?_
  refine (le_Reader_Number.calls G left bad 2 x1 q1 d1 w _ JD.out BD.out P1.out).mono ?_
  rintro e w1 ⟨rfl, hJ, hB, hKp⟩
  have HE := Ax.mk (ht_keepH HD.out hKp HGL.out)
  have RE := Ax.mk (ht_keepR RD.out JD.out hKp)
  have JE := Ax.mk hJ
  have BE := Ax.mk hB
  clear hJ hB hKp HD RD JD BD
  refine ⟨_, rfl, ?_⟩
  refine hK.out _ _ (show _ = _ from (bC HE.out.1 3).trans rfl) (fun hHeld => ?_)
  clear hK K
  refine norm_ (a' := ?_) ?_ ?_
  rotate_left
  ·show Act.put _ (some 42) _ = _
   simp only [Act.put, setIfInBounds_toArray, set_cons_zero, set_cons_succ, i64_w, i32_w]
   rfl
  refine pure_ (i := 4) (N := some 43) (v := ?_) (a' := ?_) #[true, true, true, true, true, true, false, false, false, false, false, false, false] rfl rfl (by kernel_rfl) (fun _ _ _ h => h) (Or.inl ⟨by rfl, ?_⟩) ?_ ?_
  rotate_left
  ·intro w'
   go_simp
   with_reducible rfl
  rotate_left
  ·simp only [Act.put, setIfInBounds_toArray, set_cons_zero, set_cons_succ, i64_w, i32_w]
   rfl
  refine one_ (i := 6) (N := some 45) #[true, true, true, true, true, true, true, false, false, false, false, false, false] rfl rfl (by kernel_rfl) (by decide) (fun K hK => ?_)
  refine goes_ Tryd.func40 (by kernel_rfl) rfl #[.pointer (some ⟨G, 0, none⟩), .int .i64 2] (by rfl) rfl rfl (by (try simp only [List.map_toArray, List.map_cons, List.map_nil]); rfl) ?_
  refine (le_Reader_Number.calls G q1 d1 2 x2 q2 d2 w _ JE.out BE.out P2.out).mono ?_
  rintro e w2 ⟨rfl, hJ, hB, hKp⟩
  have HF := Ax.mk (ht_keepH HE.out hKp HGL.out)
  have RF := Ax.mk (ht_keepR RE.out JE.out hKp)
  have JF := Ax.mk hJ
  have BF := Ax.mk hB
  clear hJ hB hKp HE RE JE BE
  refine ⟨_, rfl, ?_⟩
  refine hK.out _ _ (show _ = _ from (bC HF.out.1 3).trans rfl) (fun hHeld => ?_)
  clear hK K
  refine norm_ (a' := ?_) ?_ ?_
  rotate_left
  ·show Act.put _ (some 45) _ = _
   simp only [Act.put, setIfInBounds_toArray, set_cons_zero, set_cons_succ, i64_w, i32_w]
   rfl
  refine pure_ (i := 7) (N := some 46) (v := ?_) (a' := ?_) #[true, true, true, true, true, true, true, true, false, false, false, false, false] rfl rfl (by kernel_rfl) (fun _ _ _ h => h) (Or.inl ⟨by rfl, ?_⟩) ?_ ?_
  rotate_left
  ·intro w'
   go_simp
   with_reducible rfl
  rotate_left
  ·simp only [Act.put, setIfInBounds_toArray, set_cons_zero, set_cons_succ, i64_w, i32_w]
   rfl
  refine pure_ (i := 8) (N := some 47) (v := ?_) (a' := ?_) #[true, true, true, true, true, true, true, true, true, false, false, false, false] rfl rfl (by kernel_rfl) (fun _ _ _ h => h) (Or.inl ⟨by rfl, ?_⟩) ?_ ?_
  rotate_left
  ·intro w'
   go_simp
   with_reducible rfl
  rotate_left
  ·simp only [Act.put, setIfInBounds_toArray, set_cons_zero, set_cons_succ, i64_w, i32_w]
   rfl
  refine one_ (i := 9) (N := some 48) #[true, true, true, true, true, true, true, true, true, true, false, false, false] rfl rfl (by kernel_rfl) (by decide) (fun K hK => ?_)
  refine value_ (w1 := ?_) (v := ?_) (by rfl) rfl ?_ ?_
  rotate_left 2
  ·go_simp
   constructor
   ·rfl
   ·rfl
  refine hK.out _ _ (show _ = _ from (bC (blk_alloc HF.out.1 _) 3).trans rfl) (fun hHeld => ?_)
  clear hK K
  refine norm_ (a' := ?_) ?_ ?_
  rotate_left
  ·show Act.put _ (some 48) _ = _
   simp only [Act.put, setIfInBounds_toArray, set_cons_zero, set_cons_succ, i64_w, i32_w]
   rfl
  refine one_ (i := 10) (N := some 49) #[true, true, true, true, true, true, true, true, true, true, true, false, false] rfl rfl (by kernel_rfl) (by decide) (fun K hK => ?_)
  refine Kd.R_append_step k53 (w0 := w) w.heap.size (by rfl) (.tmp 40) (.tmp 48) 23 53 (.agg #[(.int .i64 0), (.int .i64 0)]) 16 rfl Tryd.underlying23 info53 rfl (by decide) (by omega) v acc (⟨wrap64 x1, wrap64 x2⟩ : S53) [.int .i64 (wrap64 x1), .int .i64 (wrap64 x2)] (fun _ => True) (fun _ => False) rfl rfl (k53_mkM _ _ _ (⟨wrap64 x1, wrap64 x2⟩ : S53)) (fun _ hk => hk.elim) (fun _ _ => trivial) RF.out BF.out (bS BF.out) (by have := HAL.out; have := HMN.out; omega) ?_
  intro v9 w9 ho hb hg hat
  have R9 := Ax.mk ho
  have B9 := Ax.mk hb
  have J9 := Ax.mk (JF.out.grown hg (JF.out.own_ne RF.out (by decide)))
  have H9 := Ax.mk (show HtH w g sc1 sz1 v 0 w9 from ⟨blk_grown HF.out.1 hg (Kd.R_ne RF.out HF.out.1 (by decide)), blk_grown HF.out.2 hg (Kd.R_ne RF.out HF.out.2 (by decide))⟩)
  clear ho hb hg hat JF BF HF RF
  refine hK.out _ _ (show _ = _ from (bC H9.out.1 3).trans rfl) (fun hHeld => ?_)
  clear hK K
  refine norm_ (a' := ?_) ?_ ?_
  rotate_left
  ·show Act.put _ (some 49) _ = _
   simp only [Act.put, setIfInBounds_toArray, set_cons_zero, set_cons_succ, i64_w, i32_w]
   rfl
  refine pure_ (i := 11) (N := some 50) (v := ?_) (a' := ?_) #[true, true, true, true, true, true, true, true, true, true, true, true, false] rfl rfl (by kernel_rfl) (fun _ _ _ h => h) (Or.inl ⟨by rfl, ?_⟩) ?_ ?_
  rotate_left
  ·intro w'
   go_simp
   with_reducible rfl
  rotate_left
  ·simp only [Act.put, setIfInBounds_toArray, set_cons_zero, set_cons_succ, i64_w, i32_w]
   rfl
  refine last_ (i := 12) (N := none) #[true, true, true, true, true, true, true, true, true, true, true, true, true] rfl rfl (by kernel_rfl) (by decide) (fun K hK => ?_)
  obtain ⟨A9, c9, rfl⟩ := Kd.R_slice R9.out
  rw [show (acc ++ [(⟨wrap64 x1, wrap64 x2⟩ : S53)]).length = acc.length + 1 by simp] at R9
  have hs9 : w9.cell? ⟨w.heap.size, 3, none⟩ = some v := (bC H9.out.1 3).trans rfl
  have hf9 := bF H9.out.1 3
  refine skip_ (w1 := ?_) (by rfl) rfl ?_ ?_
  rotate_left
  ·go_simp
   rfl
  refine hK.out _ _ ?_
  clear hK K
  refine done_ (by kernel_rfl) ?_
  go_wp2
  apply_assumption
  go_wp2
  go_roundw
  case rel => exact ⟨j + 1, acc ++ [⟨wrap64 x1, wrap64 x2⟩], q2, d2, .slice A9 _ c9, by go_num, HLT.out, HG, ⟨by rw [List.length_append, HAL.out]; rfl⟩, ⟨⟨bR (p := ⟨w.heap.size, 3, none⟩) J9.out.1 (by have := HGL.out; show G ≠ w.heap.size; omega) _, J9.out.2⟩⟩, ⟨below_set B9.out (Nat.le_refl _)⟩, ⟨ht_span H9.out _⟩, ⟨Kd.R_mono (Kd.R_far (p := ⟨w.heap.size, 3, none⟩) (Kd.R_types R9.out H9.out.1 (by decide)) (fun _ hk => hk.2) _) (fun _ _ => trivial)⟩⟩
  case measure => have := HLT.out; simp [intOf]; omega
 ·obtain rfl : j = mn := by omega
  have hG := HG.out
  rw [Nat.sub_self, head_Take.l] at hG
  cases hG
  have hx := A7.out
  clear HG A7
  unfold head_Take.m at hx
  have q0 := cellS74_0 J.out.1
  have q1 := cellS74_1 J.out.1
  obtain ⟨A0, c0, rfl⟩ := Kd.R_slice R.out
  obtain ⟨⟨h0, h1, h2, h3, h4⟩, f0, f1, f2, f3, f4⟩ := ht_facts H.out
  cases b6 with
  | true =>
   rw [if_pos rfl] at hx
   cases hx
   go_wp2
   exact ht_doorNo (by decide) rfl rfl (ht_err (ht_head H.out g sc1 sz1 _) 2) (below_set (ht_headB B.out) (Nat.le_succ _))
  | false =>
   rw [if_neg (by decide)] at hx
   by_cases hnm : nm.toList = [114, 116, 99, 108]
   case neg =>
    rw [if_neg hnm] at hx
    cases hx
    have n1 : (nm.toList == [114, 116, 99, 108]) = false := beq_eq_false_iff_ne.mpr hnm
    have n2 : (nm.toList != [114, 116, 99, 108]) = true := bne_iff_ne.mpr hnm
    clear hnm
    go_wp2
    exact ht_doorNo (by decide) rfl rfl (ht_err (ht_head H.out g sc1 sz1 _) 2) (below_set (ht_headB B.out) (Nat.le_succ _))
   rw [if_pos hnm] at hx
   have n1 : (nm.toList == [114, 116, 99, 108]) = true := beq_iff_eq.mpr hnm
   have n2 : (nm.toList != [114, 116, 99, 108]) = false := bne_eq_false_iff_eq.mpr hnm
   have HX := Ax.mk hx
   clear hnm hx
   go_wp2_with (first | (go_at_call 41; fail))
   refine (Sh.strings_Trim_one l6 0 (by decide) wr (by have := HL6.out; omega)).mono ?_
   rintro e W2 ⟨rfl, hw⟩
   have hH2 : HtH w g sc1 sz1 (.slice A0 ls.length c0) 0 W2 := by rcases hw with rfl | rfl; exact H.out; exact ht_drew H.out
   have hB2 : Below w.heap.size w W2 := by rcases hw with rfl | rfl; exact B.out; exact below_drew1 B.out
   have hR2 : Kd.R k53 53 W2 w.heap.size (fun _ => True) (.slice A0 ls.length c0) ls := by rcases hw with rfl | rfl; exact R.out; exact Kd.R_drew R.out
   clear hw H B R J h0 h1 h2 h3 h4 f0 f1 f2 f3 f4 q0 q1
   obtain ⟨⟨h0, h1, h2, h3, h4⟩, f0, f1, f2, f3, f4⟩ := ht_facts hH2
   have H := Ax.mk hH2
   have B := Ax.mk hB2
   have R := Ax.mk hR2
   have hx := HX.out
   clear hH2 hB2 hR2 HX
   have htl : (⟨(Lib.trimB l6.data.toList 0).toArray⟩ : ByteArray).toList = Lib.trimB l6.data.toList 0 := by rw [ByteArray.toList_eq]
   generalize (⟨(Lib.trimB l6.data.toList 0).toArray⟩ : ByteArray) = tr at htl ⊢
   by_cases htr : Lib.trimB l6.data.toList 0 = []
   case neg =>
    rw [if_neg htr] at hx
    cases hx
    rw [← htl] at htr
    have m1 : (tr.toList == []) = false := beq_eq_false_iff_ne.mpr htr
    have m2 : (tr.toList != []) = true := bne_iff_ne.mpr htr
    clear htr htl
    go_wp2
    exact ht_doorNo (by decide) rfl rfl (ht_err (ht_head H.out g sc1 sz1 _) 2) (below_set (ht_headB B.out) (Nat.le_succ _))
   rw [if_pos htr] at hx
   rw [← htl] at htr
   have m1 : (tr.toList == []) = true := beq_iff_eq.mpr htr
   have m2 : (tr.toList != []) = false := bne_eq_false_iff_eq.mpr htr
   clear htr htl
   replace hx := Option.bind_eq_some_iff.1 hx
   obtain ⟨ok, hr, hx⟩ := hx
   have HR := Ax.mk hr
   have HX := Ax.mk hx
   clear hr hx
   go_wp2_with (first | (go_at_call 13; fail))
   refine (head_Right.calls k g sc1 sz1 A0 c0 ls ok W2 (Kd.R_reads' R.out).2.2 (Kd.R_reads' R.out).2.1 HR.out).mono ?_
   rintro e W3 ⟨rfl, hb3⟩
   have hH3 := ht_below H.out hb3
   have B3 := Ax.mk (bP B.out hb3)
   have R3 := Ax.mk (Kd.R_below R.out hb3)
   clear hb3 H B R h0 h1 h2 h3 h4 f0 f1 f2 f3 f4 HR
   obtain ⟨⟨h0, h1, h2, h3, h4⟩, f0, f1, f2, f3, f4⟩ := ht_facts hH3
   have H := Ax.mk hH3
   clear hH3
   have hx := HX.out
   clear HX
   cases ok with
   | false =>
    rw [if_neg (by decide)] at hx
    cases hx
    go_wp2
    exact ht_doorNo (by decide) rfl rfl (ht_err (ht_head H.out g sc1 sz1 _) 2) (below_set (ht_headB B3.out) (Nat.le_succ _))
   | true =>
    rw [if_pos rfl] at hx
    cases hx
    go_wp2
    exact ht_doorOk rfl rfl (ht_err (ht_head H.out g r2 r3 _) 0) (ht_headR R3.out H.out _ _ _ _ _) (below_set (ht_headB B3.out) (Nat.le_succ _))
theorem head_Take.calls (k : Nat) (a0 : ByteArray) (r1 r2 r3 : Int) (r4 : List S53) (r5 : Int) (w : World) (h : head_Take.f k a0 = some (r1, r2, r3, r4, r5)) :
  Calls Tryd.prog 16 #[.string a0] w fun e w' => ∃ v1_, e = .returned (.tuple #[.agg #[.int .u64 r1, .int .i64 r2, .int .i64 r3, v1_], .int .i64 r5]) ∧ Kd.R k53 53 w' w.heap.size (fun _ => True) v1_ r4 ∧ Below w.heap.size w w' := by
 unfold head_Take.f at h
 by_cases h0 : a0.size = 64
 case neg =>
  rw [if_neg h0] at h
  cases h
  exact head_Take.size a0 w h0
 rw [if_pos h0] at h
 replace h := Option.bind_eq_some_iff.1 h
 obtain ⟨⟨t, er⟩, ht, h⟩ := h
 by_cases he : er = 0
 case neg =>
  rw [if_neg he] at h
  cases h
  exact head_Take.seal a0 t er w h0 ht he
 subst he
 rw [if_pos rfl] at h
 replace h := Option.bind_eq_some_iff.1 h
 obtain ⟨⟨nm, l1, b1⟩, a1, h⟩ := h
 replace h := Option.bind_eq_some_iff.1 h
 obtain ⟨⟨g, l2, b2⟩, a2, h⟩ := h
 replace h := Option.bind_eq_some_iff.1 h
 obtain ⟨⟨sc, l3, b3⟩, a3, h⟩ := h
 replace h := Option.bind_eq_some_iff.1 h
 obtain ⟨⟨sz, l4, b4⟩, a4, h⟩ := h
 replace h := Option.bind_eq_some_iff.1 h
 obtain ⟨⟨mn, l5, b5⟩, a5, h⟩ := h
 by_cases hm : 0 ≤ mn ∧ mn < 256 ∧ l5.size ≤ 1000
 case neg => rw [if_neg hm] at h; cases h
 rw [if_pos hm] at h
 replace h := Option.bind_eq_some_iff.1 h
 obtain ⟨⟨ls, l6, b6⟩, a6, h⟩ := h
 by_cases hl : l6.size ≤ 1000
 case neg => rw [if_neg hl] at h; cases h
 rw [if_pos hl] at h
 obtain ⟨n, rfl⟩ : ∃ n : Nat, mn = (n : Int) := ⟨mn.toNat, by omega⟩
 exact head_Take.main k a0 t nm l1 b1 g l2 b2 sc l3 b3 sz l4 b4 n l5 b5 ls l6 b6 r1 r2 r3 r4 r5 w h0 ht a1 a2 a3 a4 a5 (by omega) a6 hl h
end Go.Proofs.YtcgejogmiglalaaDoor.Fn
end
section
namespace Go.Proofs.YtcgejogmiglalaaDoor.Fn
open Go.RowKit Go.Proofs.YtcgejogmiglalaaDoorW.PrintWords Go.Proofs.YtcgejogmiglalaaDoorW.PrintLast Go.Proofs.YtcgejogmiglalaaDoorW.PrintMore Go.Proofs.YtcgejogmiglalaaDoor.Lf
attribute [local go_sem] max2_int min2_int max_two min_two max_three min_three max_four min_four   -- for this text's walks alone
set_option linter.unusedVariables false
set_option linter.unusedSimpArgs false
def r6_Take.l0 : Nat → ByteArray → ByteArray → Int → Int → Int → Int → Int → List (S53) → Option (Int × Int × Int × (List (S53)) × Int)
 | 0, _, _, _, _, _, _, _, _ => none
 | k + 1, x0, x4, x6, x8, x250000, x250001, x250002, x250003 => if x8 < x6 then (if 0 ≤ (wrap64 (19 + (wrap64 (4 * x8)))) then (if (wrap64 (19 + (wrap64 (4 * x8)))) ≤ (wrap64 (21 + (wrap64 (4 * x8)))) then (if (wrap64 (21 + (wrap64 (4 * x8)))) ≤ (x4.size : Int) then ((r2_Get.f k (x4.extract ((wrap64 (19 + (wrap64 (4 * x8)))) : Int).toNat ((wrap64 (21 + (wrap64 (4 * x8)))) : Int).toNat)).bind fun t250 => (if 0 ≤ (wrap64 (21 + (wrap64 (4 * x8)))) then (if (wrap64 (21 + (wrap64 (4 * x8)))) ≤ (wrap64 (23 + (wrap64 (4 * x8)))) then (if (wrap64 (23 + (wrap64 (4 * x8)))) ≤ (x4.size : Int) then ((r2_Get.f k (x4.extract ((wrap64 (21 + (wrap64 (4 * x8)))) : Int).toNat ((wrap64 (23 + (wrap64 (4 * x8)))) : Int).toNat)).bind fun t251 => (if x250003.length < 8796093022208 then (r6_Take.l0 k x0 x4 x6 (wrap64 (x8 + 1)) x250000 x250001 x250002 (x250003 ++ [(⟨wrap64 (t250), wrap64 (t251)⟩ : S53)])) else (none))) else (none)) else (none)) else (none))) else (none)) else (none)) else (none)) else ((r6_Put.f k x250000 x250001 x250002 x250003).bind fun bt255 => (if bt255.2 = 0 then (if bt255.1.toList = x0.toList then (some (x250000, x250001, x250002, x250003, 0)) else (some (0, 0, 0, ([] : List (S53)), 2))) else (some (0, 0, 0, ([] : List (S53)), 2))))
def r6_Take.f (k : Nat) (a0 : ByteArray) : Option (Int × Int × Int × (List (S53)) × Int) := if (a0.size : Int) = 64 then ((r3_Take.f k a0).bind fun bt244 => (if bt244.2 = 0 then (if 18 < (bt244.1.size : Int) then (if (wrap64 (bt bt244.1 18)) > 8 then (some (0, 0, 0, ([] : List (S53)), 2)) else (if 4 ≤ 12 then (if 12 ≤ (bt244.1.size : Int) then ((r2_Get.f k (bt244.1.extract 4 12)).bind fun t246 => (if 12 ≤ 14 then (if 14 ≤ (bt244.1.size : Int) then ((r2_Get.f k (bt244.1.extract 12 14)).bind fun t247 => (if 14 ≤ 18 then (if 18 ≤ (bt244.1.size : Int) then ((r2_Get.f k (bt244.1.extract 14 18)).bind fun t248 => (r6_Take.l0 k a0 bt244.1 (wrap64 (bt bt244.1 18)) 0 t246 (wrap64 (t247)) (wrap64 (t248)) ([] : List (S53)))) else (none)) else (none))) else (none)) else (none))) else (none)) else (none))) else (none)) else (some (0, 0, 0, ([] : List (S53)), bt244.2)))) else (some (0, 0, 0, ([] : List (S53)), 1))
theorem r6_Take.mono_l : ∀ k, (∀ y0 y1 y2 y3 y4 y5 y6 y7, LeO (r6_Take.l0 k y0 y1 y2 y3 y4 y5 y6 y7) (r6_Take.l0 (k + 1) y0 y1 y2 y3 y4 y5 y6 y7))
 | 0 => fun _ _ _ _ _ _ _ _ r h => by simp [r6_Take.l0] at h
 | k + 1 => by
  have ih0 := r6_Take.mono_l k
  ·intro y0 y1 y2 y3 y4 y5 y6 y7
   unfold r6_Take.l0
   repeat' first
   | (with_reducible exact ih0 _ _ _ _ _ _ _ _)
   | (with_reducible exact r2_Get.mono _ _)
   | (with_reducible exact r3_Take.mono _ _)
   | (with_reducible exact r6_Put.mono _ _ _ _ _)
   | (with_reducible exact LeO.refl _)
   | (with_reducible exact LeO.none _)
   | (with_reducible refine LeO.ite ?_ ?_)
   | (with_reducible refine LeO.bind ?_ (fun _ => ?_))
   | exact ih0 _ _ _ _ _ _ _ _
   | exact r2_Get.mono _ _
   | exact r3_Take.mono _ _
   | exact r6_Put.mono _ _ _ _ _
   | exact LeO.none _
   | refine LeO.ite ?_ ?_
   | refine LeO.bind ?_ (fun _ => ?_)
theorem r6_Take.mono : ∀ a0 k, LeO (r6_Take.f k a0) (r6_Take.f (k + 1) a0) := by
 intro a0 k
 have ih0 := r6_Take.mono_l k
 unfold r6_Take.f
 repeat' first
   | (with_reducible exact ih0 _ _ _ _ _ _ _ _)
   | (with_reducible exact r2_Get.mono _ _)
   | (with_reducible exact r3_Take.mono _ _)
   | (with_reducible exact r6_Put.mono _ _ _ _ _)
   | (with_reducible exact LeO.refl _)
   | (with_reducible exact LeO.none _)
   | (with_reducible refine LeO.ite ?_ ?_)
   | (with_reducible refine LeO.bind ?_ (fun _ => ?_))
   | exact ih0 _ _ _ _ _ _ _ _
   | exact r2_Get.mono _ _
   | exact r3_Take.mono _ _
   | exact r6_Put.mono _ _ _ _ _
   | exact LeO.none _
   | refine LeO.ite ?_ ?_
   | refine LeO.bind ?_ (fun _ => ?_)
def r6_Take.T9 : Bool × List (List Nat × List Nat) := (true, [([], []), ([0], [0]), ([1], [1]), ([], []), ([3], [3]), ([4, 2], [4]), ([5], [5]), ([], []), ([7], [7]), ([8, 5], [8]), ([9], [9]), ([2, 6, 10], [2, 6, 10]), ([], []), ([12, 11, 9, 0, 1, 2, 3, 4, 5, 6, 7, 8, 9, 10, 11, 12], [11, 12])])
def r6_Take.B9 : List Nat := [0, 1, 3, 0, 8, 31, 63, 0, 128, 447, 959, 2047, 0, 8191]
def r6_Take.T13 : Bool × List (List Nat × List Nat) := (true, [([], []), ([0], [0]), ([], []), ([], []), ([3], [3]), ([4], [4]), ([], []), ([6], [6]), ([7], [7]), ([2, 5, 8], [2, 5, 8]), ([9], [9]), ([10], [10]), ([], []), ([], []), ([13], [13]), ([14], [14]), ([], []), ([16], [16]), ([17], [17]), ([12, 15, 18], [12, 15, 18]), ([19, 10], [19]), ([20], [20]), ([11, 21], [11, 21]), ([22], [22]), ([1, 23, 20], [1, 23]), ([0, 1, 2, 3, 4, 5, 6, 7, 8, 9, 10, 11, 12, 13, 14, 15, 16, 17, 18, 19, 20, 21, 22, 23, 24], []), ([25, 24, 24, 0, 1, 2, 3, 4, 5, 6, 7, 8, 9, 10, 11, 12, 13, 14, 15, 16, 17, 18, 19, 20, 21, 22, 23, 24], [24, 25])])
def r6_Take.B13 : List Nat := [0, 1, 0, 0, 8, 24, 0, 64, 192, 508, 1020, 2044, 0, 0, 8192, 24576, 0, 65536, 196608, 520192, 1046524, 2095100, 4194300, 8388604, 16777215, 33554431, 67108863]
end Go.Proofs.YtcgejogmiglalaaDoor.Fn
end
section
namespace Go.Proofs.YtcgejogmiglalaaDoor.Fn
open Go.RowKit Go.Proofs.YtcgejogmiglalaaDoorW.PrintWords Go.Proofs.YtcgejogmiglalaaDoorW.PrintLast Go.Proofs.YtcgejogmiglalaaDoorW.PrintMore Go.Proofs.YtcgejogmiglalaaDoor.Lf
open List (setIfInBounds_toArray set_cons_zero set_cons_succ)
attribute [local go_sem] max2_int min2_int max_two min_two max_three min_three max_four min_four   -- for this text's walks alone
set_option linter.unusedVariables false
set_option linter.unusedSimpArgs false
def head_Choose.j0 : Nat → Int → Int → Bool → Int → Int → Int → List (S53) → Int → Int → Int → List (S53) → Option (Int × Int × Int × (List (S53)) × Int × Int)
 | 0, _, _, _, _, _, _, _, _, _, _, _ => none
 | k + 1, x8, x10, x21, x129000, x129001, x129002, x129003, x137000, x137001, x137002, x137003 => if x21 = true then (some (0, 0, 0, ([] : List (S53)), 0, 2)) else (if x8 = 0 then (if x10 = 0 then (if x137000 > x129000 then (some (x137000, x137001, x137002, x137003, 1, 0)) else (some (x129000, x129001, x129002, x129003, 0, 0))) else (some (x129000, x129001, x129002, x129003, 0, 0))) else (some (x137000, x137001, x137002, x137003, 1, 0)))
def head_Choose.f (k : Nat) (a0 : ByteArray) (a1 : ByteArray) : Option (Int × Int × Int × (List (S53)) × Int × Int) := (head_Take.f k a0).bind fun bt121 => ((head_Take.f k a1).bind fun bt129 => (if bt121.2.2.2.2 = 0 then (head_Choose.j0 k bt121.2.2.2.2 bt129.2.2.2.2 false bt121.1 bt121.2.1 bt121.2.2.1 bt121.2.2.2.1 bt129.1 bt129.2.1 bt129.2.2.1 bt129.2.2.2.1) else (head_Choose.j0 k bt121.2.2.2.2 bt129.2.2.2.2 (bt129.2.2.2.2 != 0) bt121.1 bt121.2.1 bt121.2.2.1 bt121.2.2.2.1 bt129.1 bt129.2.1 bt129.2.2.1 bt129.2.2.2.1)))
theorem head_Choose.mono_l : ∀ k, (∀ y0 y1 y2 y3 y4 y5 y6 y7 y8 y9 y10, LeO (head_Choose.j0 k y0 y1 y2 y3 y4 y5 y6 y7 y8 y9 y10) (head_Choose.j0 (k + 1) y0 y1 y2 y3 y4 y5 y6 y7 y8 y9 y10))
 | 0 => fun _ _ _ _ _ _ _ _ _ _ _ r h => by simp [head_Choose.j0] at h
 | k + 1 => by
  have ih0 := head_Choose.mono_l k
  ·intro y0 y1 y2 y3 y4 y5 y6 y7 y8 y9 y10
   unfold head_Choose.j0
   repeat' first
   | (with_reducible exact ih0 _ _ _ _ _ _ _ _ _ _ _)
   | (with_reducible exact head_Take.mono _ _)
   | (with_reducible exact LeO.refl _)
   | (with_reducible exact LeO.none _)
   | (with_reducible refine LeO.ite ?_ ?_)
   | (with_reducible refine LeO.bind ?_ (fun _ => ?_))
   | exact ih0 _ _ _ _ _ _ _ _ _ _ _
   | exact head_Take.mono _ _
   | exact LeO.none _
   | refine LeO.ite ?_ ?_
   | refine LeO.bind ?_ (fun _ => ?_)
theorem head_Choose.mono : ∀ a0 a1 k, LeO (head_Choose.f k a0 a1) (head_Choose.f (k + 1) a0 a1) := by
 intro a0 a1 k
 have ih0 := head_Choose.mono_l k
 unfold head_Choose.f
 repeat' first
   | (with_reducible exact ih0 _ _ _ _ _ _ _ _ _ _ _)
   | (with_reducible exact head_Take.mono _ _)
   | (with_reducible exact LeO.refl _)
   | (with_reducible exact LeO.none _)
   | (with_reducible refine LeO.ite ?_ ?_)
   | (with_reducible refine LeO.bind ?_ (fun _ => ?_))
   | exact ih0 _ _ _ _ _ _ _ _ _ _ _
   | exact head_Take.mono _ _
   | exact LeO.none _
   | refine LeO.ite ?_ ?_
   | refine LeO.bind ?_ (fun _ => ?_)
set_option maxHeartbeats 8000000 in
set_option maxRecDepth 100000 in
theorem head_Choose.calls (k : Nat) (a0 : ByteArray) (a1 : ByteArray) (r1 : Int) (r2 : Int) (r3 : Int) (r4 : List (S53)) (r5 : Int) (r6 : Int) (w : World) (h : head_Choose.f k a0 a1 = some (r1, r2, r3, r4, r5, r6)) :
  Calls Tryd.prog 18 #[.string a0, .string a1] w fun e w' => ∃ v3_ : Value, e = .returned (.tuple #[.agg #[.int .u64 r1, .int .i64 r2, .int .i64 r3, v3_], .int .i64 r5, .int .i64 r6]) ∧ Kd.R k53 53 w' w.heap.size (fun _ => True) v3_ r4 ∧ Below w.heap.size w w' := by
 have hu25 := Tryd.underlying25
 have HB := Ax.mk (Below.refl w.heap.size w)
 have H : ((head_Take.f k a0).bind fun bt121 => ((head_Take.f k a1).bind fun bt129 => (if bt121.2.2.2.2 = 0 then (head_Choose.j0 k bt121.2.2.2.2 bt129.2.2.2.2 false bt121.1 bt121.2.1 bt121.2.2.1 bt121.2.2.2.1 bt129.1 bt129.2.1 bt129.2.2.1 bt129.2.2.2.1) else (head_Choose.j0 k bt121.2.2.2.2 bt129.2.2.2.2 (bt129.2.2.2.2 != 0) bt121.1 bt121.2.1 bt121.2.2.1 bt121.2.2.2.1 bt129.1 bt129.2.1 bt129.2.2.1 bt129.2.2.2.1)))) = some (r1, r2, r3, r4, r5, r6) := h
 clear h
 replace H := Option.bind_eq_some_iff.mp H
 obtain ⟨⟨t121, t122, t123, t124, t127⟩, A30, H⟩ := H
 replace H : ((head_Take.f k a1).bind fun bt129 => (if t127 = 0 then (head_Choose.j0 k t127 bt129.2.2.2.2 false t121 t122 t123 t124 bt129.1 bt129.2.1 bt129.2.2.1 bt129.2.2.2.1) else (head_Choose.j0 k t127 bt129.2.2.2.2 (bt129.2.2.2.2 != 0) t121 t122 t123 t124 bt129.1 bt129.2.1 bt129.2.2.1 bt129.2.2.2.1))) = some (r1, r2, r3, r4, r5, r6) := H
 have A3 := Ax.mk A30
 clear A30
 replace H := Option.bind_eq_some_iff.mp H
 obtain ⟨⟨t129, t130, t131, t132, t135⟩, A40, H⟩ := H
 replace H : (if t127 = 0 then (head_Choose.j0 k t127 t135 false t121 t122 t123 t124 t129 t130 t131 t132) else (head_Choose.j0 k t127 t135 (t135 != 0) t121 t122 t123 t124 t129 t130 t131 t132)) = some (r1, r2, r3, r4, r5, r6) := H
 have A4 := Ax.mk A40
 clear A40
 have HC5 := Ax.mk H
 clear H
 go_enter Tryd.func18, Tryd.ntmps18
 go_upto_region 3 with (first | ((with_reducible refine gate_dst (N := 4) rfl ?_); refine box_event ?hg (N := 4) ?hd (cs := #[.int .u64 0, .int .i64 0, .int .i64 0, .slice none 0 0]) (t := 25) ?hr ?_; (case hd => rfl); (case hg => rfl); (case hr => first | (go_simp; done) | (go_simp; rfl)); intro gb120 hg w6 hbox hb; have n0_ := Ax.mk (bP bA hb); have n1_ := Ax.mk (hbox); have n2_ := Ax.mk ((ge_new hg : w.heap.size ≤ gb120)); have n3_ := n2_; clear HB; have HB := n0_; have BK120 := n1_; have GW120 := n2_; have GE120 := n3_; clear n0_ n1_ n2_ n3_; clear hb hbox hg) | ((with_reducible refine gate_callee (f := 16) rfl ?_); refine goesL_ (some 13) rfl rfl Tryd.func16 (by kernel_rfl) rfl #[.string a0] rfl (by (try simp only [List.map_toArray, List.map_cons, List.map_nil]); first | done | rfl | (simp only [List.length_drop, List.length_take]; rfl) | (rw [wrap_sum2 (by assumption)]; rfl)) ?_; (with_reducible refine (head_Take.calls k a0 t121 t122 t123 t124 t127 _ A3.out).mono ?_); rintro e w7 ⟨v125, rfl, ho0, hb⟩; refine ⟨_, rfl, ?_⟩; have n0_ := Ax.mk (Kd.R_lower ho0 (bS bA)); have n1_ := Ax.mk (bB (bT BK120.out) hb); have n2_ := Ax.mk (bP bA hb); clear BK120; clear HB; have HO126 := n0_; have BK120 := n1_; have HB := n2_; clear n0_ n1_ n2_; (try clear hb); (try clear hb2); (try clear hk); (try clear hi); (try clear ho0)) | ((with_reducible refine gate_dst (N := 7) rfl ?_); refine box_event ?hg (N := 7) ?hd (cs := #[.int .u64 0, .int .i64 0, .int .i64 0, .slice none 0 0]) (t := 25) ?hr ?_; (case hd => rfl); (case hg => rfl); (case hr => first | (go_simp; done) | (go_simp; rfl)); intro gb128 hg w8 hbox hb; have n0_ := Ax.mk (Kd.R_below (by exact Kd.R_to HO126.out) hb); have n1_ := Ax.mk (bB (bT BK120.out) hb); have n2_ := Ax.mk (bP bA hb); have n3_ := Ax.mk (hbox); have n4_ := Ax.mk ((ge_new hg : w.heap.size ≤ gb128)); have n5_ := n4_; have n6_ := Ax.mk ((ne_lt hg BK120.out : gb120 ≠ gb128)); have n7_ := Ax.mk ((ne_gt hg BK120.out : gb128 ≠ gb120)); clear HO126; clear BK120; clear HB; have HO126 := n0_; have BK120 := n1_; have HB := n2_; have BK128 := n3_; have GW128 := n4_; have GE128 := n5_; have NB120_128 := n6_; have NB128_120 := n7_; clear n0_ n1_ n2_ n3_ n4_ n5_ n6_ n7_; clear hb hbox hg; have hnb9 := NB128_120.out; have hnc9 := NB120_128.out; have hcz10_0 : w8.cell? ⟨gb128, 0, none⟩ = some (.int .u64 0) := (bC BK128.out 0).trans rfl; have hcz10_1 : w8.cell? ⟨gb128, 1, none⟩ = some (.int .i64 0) := (bC BK128.out 1).trans rfl; have hcz10_2 : w8.cell? ⟨gb128, 2, none⟩ = some (.int .i64 0) := (bC BK128.out 2).trans rfl; have hcz10_3 : w8.cell? ⟨gb128, 3, none⟩ = some (.slice none 0 0) := (bC BK128.out 3).trans rfl; have hfz10_0 := bF BK128.out 0; have hfz10_1 := bF BK128.out 1; have hfz10_2 := bF BK128.out 2; have hfz10_3 := bF BK128.out 3; obtain ⟨Ao11, co11, eo11⟩ := Kd.R_slice HO126.out; subst eo11) | ((with_reducible refine gate_callee (f := 16) rfl ?_); refine goesL_ (some 18) rfl rfl Tryd.func16 (by kernel_rfl) rfl #[.string a1] rfl (by (try simp only [List.map_toArray, List.map_cons, List.map_nil]); first | done | rfl | (simp only [List.length_drop, List.length_take]; rfl) | (rw [wrap_sum2 (by assumption)]; rfl)) ?_; (with_reducible refine (head_Take.calls k a1 t129 t130 t131 t132 t135 _ A4.out).mono ?_); rintro e w12 ⟨v133, rfl, ho0, hb⟩; refine ⟨_, rfl, ?_⟩; have n0_ := Ax.mk (Kd.R_elder' (by apply Kd.R_to; exact (Kd.R_mono (Kd.R_far (p := ⟨gb128, 3, none⟩) (Kd.R_far (p := ⟨gb128, 2, none⟩) (Kd.R_far (p := ⟨gb128, 1, none⟩) (Kd.R_far (p := ⟨gb128, 0, none⟩) (Kd.R_types HO126.out BK128.out (by decide)) (fun _ hk => hk.2) (.int .u64 t121)) (fun _ hk => hk.2) (.int .i64 t122)) (fun _ hk => hk.2) (.int .i64 t123)) (fun _ hk => hk.2) (.slice Ao11 t124.length co11)) (fun _ h_ => h_.1))) (Kd.R_base ho0) hb); have n1_ := Ax.mk (Kd.R_lower (Kd.R_new' ho0 (Kd.R_lt (by apply Kd.R_to; exact (Kd.R_mono (Kd.R_far (p := ⟨gb128, 3, none⟩) (Kd.R_far (p := ⟨gb128, 2, none⟩) (Kd.R_far (p := ⟨gb128, 1, none⟩) (Kd.R_far (p := ⟨gb128, 0, none⟩) (Kd.R_types HO126.out BK128.out (by decide)) (fun _ hk => hk.2) (.int .u64 t121)) (fun _ hk => hk.2) (.int .i64 t122)) (fun _ hk => hk.2) (.int .i64 t123)) (fun _ hk => hk.2) (.slice Ao11 t124.length co11)) (fun _ h_ => h_.1))))) (bS bA)); have n2_ := Ax.mk (bB (g := gb120) (o := .cells #[.int .u64 0, .int .i64 0, .int .i64 0, .slice none 0 0] 25 (0, 0)) (by refine bT ?_; refine bR ?_ NB120_128.out _; refine bT ?_; refine bR ?_ NB120_128.out _; refine bT ?_; refine bR ?_ NB120_128.out _; refine bT ?_; refine bR ?_ NB120_128.out _; exact bT BK120.out) hb); have n3_ := Ax.mk (bB (g := gb128) (o := .cells #[.int .u64 t121, .int .i64 t122, .int .i64 t123, .slice Ao11 t124.length co11] 25 (0, 0)) (by refine bT ?_; refine bU (cs := #[.int .u64 t121, .int .i64 t122, .int .i64 t123, .slice none 0 0]) ?_ 3 _ rfl; refine bT ?_; refine bU (cs := #[.int .u64 t121, .int .i64 t122, .int .i64 0, .slice none 0 0]) ?_ 2 _ rfl; refine bT ?_; refine bU (cs := #[.int .u64 t121, .int .i64 0, .int .i64 0, .slice none 0 0]) ?_ 1 _ rfl; refine bT ?_; refine bU (cs := #[.int .u64 0, .int .i64 0, .int .i64 0, .slice none 0 0]) ?_ 0 _ rfl; exact bT BK128.out) hb); have n4_ := Ax.mk (bP bA hb); clear HO126; clear BK120; clear BK128; clear HB; have HO126 := n0_; have HO134 := n1_; have BK120 := n2_; have BK128 := n3_; have HB := n4_; clear n0_ n1_ n2_ n3_ n4_; (try clear hb); (try clear hb2); (try clear hk); (try clear hi); (try clear ho0)) | ((with_reducible refine gate_dst (N := 9) rfl ?_); refine box_event ?hg (N := 9) ?hd (cs := #[.int .u64 0, .int .i64 0, .int .i64 0, .slice none 0 0]) (t := 25) ?hr ?_; (case hd => rfl); (case hg => rfl); (case hr => first | (go_simp; done) | (go_simp; rfl)); intro gb136 hg w13 hbox hb; have n0_ := Ax.mk (Kd.R_below (by exact Kd.R_to HO126.out) hb); have n1_ := Ax.mk (Kd.R_below (by exact Kd.R_to HO134.out) hb); have n2_ := Ax.mk (bB (bT BK120.out) hb); have n3_ := Ax.mk (bB (bT BK128.out) hb); have n4_ := Ax.mk (bP bA hb); have n5_ := Ax.mk (hbox); have n6_ := Ax.mk ((ge_new hg : w.heap.size ≤ gb136)); have n7_ := n6_; have n8_ := Ax.mk ((ne_lt hg BK120.out : gb120 ≠ gb136)); have n9_ := Ax.mk ((ne_gt hg BK120.out : gb136 ≠ gb120)); have n10_ := Ax.mk ((ne_lt hg BK128.out : gb128 ≠ gb136)); have n11_ := Ax.mk ((ne_gt hg BK128.out : gb136 ≠ gb128)); clear HO126; clear HO134; clear BK120; clear BK128; clear HB; have HO126 := n0_; have HO134 := n1_; have BK120 := n2_; have BK128 := n3_; have HB := n4_; have BK136 := n5_; have GW136 := n6_; have GE136 := n7_; have NB120_136 := n8_; have NB136_120 := n9_; have NB128_136 := n10_; have NB136_128 := n11_; clear n0_ n1_ n2_ n3_ n4_ n5_ n6_ n7_ n8_ n9_ n10_ n11_; clear hb hbox hg; have hnb14 := NB136_120.out; have hnc14 := NB120_136.out; have hnb15 := NB136_128.out; have hnc15 := NB128_136.out; have hcz16_0 : w13.cell? ⟨gb136, 0, none⟩ = some (.int .u64 0) := (bC BK136.out 0).trans rfl; have hcz16_1 : w13.cell? ⟨gb136, 1, none⟩ = some (.int .i64 0) := (bC BK136.out 1).trans rfl; have hcz16_2 : w13.cell? ⟨gb136, 2, none⟩ = some (.int .i64 0) := (bC BK136.out 2).trans rfl; have hcz16_3 : w13.cell? ⟨gb136, 3, none⟩ = some (.slice none 0 0) := (bC BK136.out 3).trans rfl; have hfz16_0 := bF BK136.out 0; have hfz16_1 := bF BK136.out 1; have hfz16_2 := bF BK136.out 2; have hfz16_3 := bF BK136.out 3; obtain ⟨Ao17, co17, eo17⟩ := Kd.R_slice HO134.out; subst eo17))
 (try simp only [Act.put, setIfInBounds_toArray, set_cons_zero, set_cons_succ])
 go_cut [21] (fun v21 wc => ∃ (kq : Nat) (x21_4 : Bool), v21 = .bool x21_4 ∧ Ax (head_Choose.j0 kq t127 t135 x21_4 t121 t122 t123 t124 t129 t130 t131 t132 = some (r1, r2, r3, r4, r5, r6)) ∧ Ax (kq ≤ k) ∧ Ax (Kd.R k53 53 wc w.heap.size (fun k_ => some k_ ≠ ((.slice Ao17 t132.length co17) : Value).ownBlock) (.slice Ao11 t124.length co11) t124) ∧ Ax (Kd.R k53 53 wc w.heap.size (fun k_ => some k_ ≠ ((.slice Ao11 t124.length co11) : Value).ownBlock) (.slice Ao17 t132.length co17) t132) ∧ Ax (wc.heap[gb120]? = some (.cells #[.int .u64 0, .int .i64 0, .int .i64 0, (.slice none 0 0)] 25 (0, 0))) ∧ Ax (wc.heap[gb128]? = some (.cells #[.int .u64 t121, .int .i64 t122, .int .i64 t123, (.slice Ao11 t124.length co11)] 25 (0, 0))) ∧ Ax (wc.heap[gb136]? = some (.cells #[.int .u64 t129, .int .i64 t130, .int .i64 t131, (.slice Ao17 t132.length co17)] 25 (0, 0))) ∧ Ax (Below w.heap.size w wc))
 case first =>
  have H := HC5.out
  clear HC5
  by_cases c18 : t127 = 0
  ·rw [if_pos c18] at H
   have c18b0 : (t127 == 0) = true := beq_iff_eq.mpr c18
   have c18b1 : (t127 != 0) = false := bne_eq_false_iff_eq.mpr c18
   clear c18
   (first | rw [c18b0] | (simp only [i64_w, i32_w]; rw [c18b0]) | skip)
   have H' := Ax.mk H
   clear H
   go_wp2
   go_meet
   case rel => exact ⟨_, (false), (by first | rfl | (simp; done) | (simp [*]; done)), H', ⟨by first | omega | exact Nat.le_refl _⟩, ⟨by apply Kd.R_to; exact Kd.R_mono (Kd.R_far (p := ⟨gb136, 3, none⟩) (Kd.R_far (p := ⟨gb136, 2, none⟩) (Kd.R_far (p := ⟨gb136, 1, none⟩) (Kd.R_far (p := ⟨gb136, 0, none⟩) (Kd.R_types HO126.out BK136.out (by decide)) (fun _ hk => hk.2) (.int .u64 t129)) (fun _ hk => hk.2) (.int .i64 t130)) (fun _ hk => hk.2) (.int .i64 t131)) (fun _ hk => hk.2) (.slice Ao17 t132.length co17)) (fun _ hk => hk.1.2)⟩, ⟨by apply Kd.R_to; exact Kd.R_mono (Kd.R_far (p := ⟨gb136, 3, none⟩) (Kd.R_far (p := ⟨gb136, 2, none⟩) (Kd.R_far (p := ⟨gb136, 1, none⟩) (Kd.R_far (p := ⟨gb136, 0, none⟩) (Kd.R_types HO134.out BK136.out (by decide)) (fun _ hk => hk.2) (.int .u64 t129)) (fun _ hk => hk.2) (.int .i64 t130)) (fun _ hk => hk.2) (.int .i64 t131)) (fun _ hk => hk.2) (.slice Ao17 t132.length co17)) (fun _ hk => hk.1.2)⟩, ⟨by refine bT ?_; refine bR ?_ NB120_136.out _; refine bT ?_; refine bR ?_ NB120_136.out _; refine bT ?_; refine bR ?_ NB120_136.out _; refine bT ?_; refine bR ?_ NB120_136.out _; refine bT ?_; exact BK120.out⟩, ⟨by refine bT ?_; refine bR ?_ NB128_136.out _; refine bT ?_; refine bR ?_ NB128_136.out _; refine bT ?_; refine bR ?_ NB128_136.out _; refine bT ?_; refine bR ?_ NB128_136.out _; refine bT ?_; exact BK128.out⟩, ⟨by refine bT ?_; refine bU (cs := #[.int .u64 t129, .int .i64 t130, .int .i64 t131, .slice none 0 0]) ?_ 3 _ rfl; refine bT ?_; refine bU (cs := #[.int .u64 t129, .int .i64 t130, .int .i64 0, .slice none 0 0]) ?_ 2 _ rfl; refine bT ?_; refine bU (cs := #[.int .u64 t129, .int .i64 0, .int .i64 0, .slice none 0 0]) ?_ 1 _ rfl; refine bT ?_; refine bU (cs := #[.int .u64 0, .int .i64 0, .int .i64 0, .slice none 0 0]) ?_ 0 _ rfl; refine bT ?_; exact BK136.out⟩, ⟨bA⟩⟩
  ·rw [if_neg c18] at H
   have c18b0 : (t127 == 0) = false := beq_eq_false_iff_ne.mpr c18
   have c18b1 : (t127 != 0) = true := bne_iff_ne.mpr c18
   (first | rw [c18b0] | (simp only [i64_w, i32_w]; rw [c18b0]) | skip)
   have H' := Ax.mk H
   clear H
   go_wp2
   go_meet
   case rel => exact ⟨_, ((t135 != 0)), (by first | rfl | (simp; done) | (simp [*]; done)), H', ⟨by first | omega | exact Nat.le_refl _⟩, ⟨by apply Kd.R_to; exact Kd.R_mono (Kd.R_far (p := ⟨gb136, 3, none⟩) (Kd.R_far (p := ⟨gb136, 2, none⟩) (Kd.R_far (p := ⟨gb136, 1, none⟩) (Kd.R_far (p := ⟨gb136, 0, none⟩) (Kd.R_types HO126.out BK136.out (by decide)) (fun _ hk => hk.2) (.int .u64 t129)) (fun _ hk => hk.2) (.int .i64 t130)) (fun _ hk => hk.2) (.int .i64 t131)) (fun _ hk => hk.2) (.slice Ao17 t132.length co17)) (fun _ hk => hk.1.2)⟩, ⟨by apply Kd.R_to; exact Kd.R_mono (Kd.R_far (p := ⟨gb136, 3, none⟩) (Kd.R_far (p := ⟨gb136, 2, none⟩) (Kd.R_far (p := ⟨gb136, 1, none⟩) (Kd.R_far (p := ⟨gb136, 0, none⟩) (Kd.R_types HO134.out BK136.out (by decide)) (fun _ hk => hk.2) (.int .u64 t129)) (fun _ hk => hk.2) (.int .i64 t130)) (fun _ hk => hk.2) (.int .i64 t131)) (fun _ hk => hk.2) (.slice Ao17 t132.length co17)) (fun _ hk => hk.1.2)⟩, ⟨by refine bT ?_; refine bR ?_ NB120_136.out _; refine bT ?_; refine bR ?_ NB120_136.out _; refine bT ?_; refine bR ?_ NB120_136.out _; refine bT ?_; refine bR ?_ NB120_136.out _; refine bT ?_; exact BK120.out⟩, ⟨by refine bT ?_; refine bR ?_ NB128_136.out _; refine bT ?_; refine bR ?_ NB128_136.out _; refine bT ?_; refine bR ?_ NB128_136.out _; refine bT ?_; refine bR ?_ NB128_136.out _; refine bT ?_; exact BK128.out⟩, ⟨by refine bT ?_; refine bU (cs := #[.int .u64 t129, .int .i64 t130, .int .i64 t131, .slice none 0 0]) ?_ 3 _ rfl; refine bT ?_; refine bU (cs := #[.int .u64 t129, .int .i64 t130, .int .i64 0, .slice none 0 0]) ?_ 2 _ rfl; refine bT ?_; refine bU (cs := #[.int .u64 t129, .int .i64 0, .int .i64 0, .slice none 0 0]) ?_ 1 _ rfl; refine bT ?_; refine bU (cs := #[.int .u64 0, .int .i64 0, .int .i64 0, .slice none 0 0]) ?_ 0 _ rfl; refine bT ?_; exact BK136.out⟩, ⟨bA⟩⟩
 case rest =>
  clear HC5
  try clear c1
  try clear p2
  try clear c9
  try clear c14
  try clear c15
  try clear c16
  try clear c18
  try clear c18b0
  try clear c18b1
  try clear hcz10_0
  try clear hcz10_1
  try clear hcz10_2
  try clear hcz10_3
  try clear hcz16_0
  try clear hcz16_1
  try clear hcz16_2
  try clear hcz16_3
  try clear hfz10_0
  try clear hfz10_1
  try clear hfz10_2
  try clear hfz10_3
  try clear hfz16_0
  try clear hfz16_1
  try clear hfz16_2
  try clear hfz16_3
  obtain ⟨kq, x21_4, rfl, HA, HJ4, HO_129003, HO_137003, BK120, BK128, BK136, HB⟩ := hcut
  cases kq with
  | zero => exact absurd HA.out (by simp [head_Choose.j0])
  | succ kj4 =>
   have H := HA.out
   clear HA
   simp only [head_Choose.j0] at H
   by_cases c19 : x21_4 = true
   ·subst c19
    have H1 : (some (0, 0, 0, ([] : List (S53)), 0, 2)) = some (r1, r2, r3, r4, r5, r6) := by rw [if_pos rfl] at H; exact H
    clear H
    have H := H1
    clear H1
    simp only [Option.some.injEq, Prod.mk.injEq] at H
    obtain ⟨rfl, rfl, rfl, rfl, rfl, rfl⟩ := H
    have hnb20 := NB120_128.out
    have hnc20 := NB128_120.out
    have hnb21 := NB120_136.out
    have hnc21 := NB136_120.out
    have hcz22_0 : wc.cell? ⟨gb120, 0, none⟩ = some (.int .u64 0) := (bC BK120.out 0).trans rfl
    have hcz22_1 : wc.cell? ⟨gb120, 1, none⟩ = some (.int .i64 0) := (bC BK120.out 1).trans rfl
    have hcz22_2 : wc.cell? ⟨gb120, 2, none⟩ = some (.int .i64 0) := (bC BK120.out 2).trans rfl
    have hcz22_3 : wc.cell? ⟨gb120, 3, none⟩ = some (.slice none 0 0) := (bC BK120.out 3).trans rfl
    have hfz22_0 := bF BK120.out 0
    have hfz22_1 := bF BK120.out 1
    have hfz22_2 := bF BK120.out 2
    have hfz22_3 := bF BK120.out 3
    go_wp2
    refine bodyPost_ret (results_ctt rfl _ _ gb120 25 #[.int .u64 0, .int .i64 0, .int .i64 0, .slice none 0 0] (0, 0) _ rfl (by refine bT ?_; refine bU (cs := #[.int .u64 0, .int .i64 0, .int .i64 0, .slice none 0 0]) ?_ 3 _ rfl; refine bT ?_; refine bU (cs := #[.int .u64 0, .int .i64 0, .int .i64 0, .slice none 0 0]) ?_ 2 _ rfl; refine bT ?_; refine bU (cs := #[.int .u64 0, .int .i64 0, .int .i64 0, .slice none 0 0]) ?_ 1 _ rfl; refine bT ?_; refine bU (cs := #[.int .u64 0, .int .i64 0, .int .i64 0, .slice none 0 0]) ?_ 0 _ rfl; exact bT BK120.out) Tryd.underlying25 rfl (by kernel_rfl)) rfl ?_
    exact ⟨_, by first | rfl | (simp [errW_none, errW_some] <;> rfl) | (simp [*, errW_none, errW_some] <;> rfl), by first | exact Kd.R_nil _ _ _ _ _ | exact Kd.N_nil _ _ _ _ _ | exact Kd.V_nil _ _ _ _ _ | exact Kd.Q_nil _ _ _ _ _ | exact Kd.S_nil _ _ _ _ _, bA⟩
   ·replace c19 := Bool.eq_false_iff.mpr c19
    subst c19
    have H1 : (if t127 = 0 then (if t135 = 0 then (if t129 > t121 then (some (t129, t130, t131, t132, 1, 0)) else (some (t121, t122, t123, t124, 0, 0))) else (some (t121, t122, t123, t124, 0, 0))) else (some (t129, t130, t131, t132, 1, 0))) = some (r1, r2, r3, r4, r5, r6) := by rw [if_neg (show ¬ (false = true) by decide)] at H; exact H
    clear H
    have H := H1
    clear H1
    by_cases c23 : t127 = 0
    ·rw [if_pos c23] at H
     have c23b0 : (t127 == 0) = true := beq_iff_eq.mpr c23
     have c23b1 : (t127 != 0) = false := bne_eq_false_iff_eq.mpr c23
     clear c23
     by_cases c24 : t135 = 0
     ·rw [if_pos c24] at H
      have c24b0 : (t135 == 0) = true := beq_iff_eq.mpr c24
      have c24b1 : (t135 != 0) = false := bne_eq_false_iff_eq.mpr c24
      clear c24
      by_cases c25 : t129 > t121
      ·rw [if_pos c25] at H
       have c25b0 : decide (t121 < t129) = true := decide_eq_true c25
       clear c25
       simp only [Option.some.injEq, Prod.mk.injEq] at H
       obtain ⟨rfl, rfl, rfl, rfl, rfl, rfl⟩ := H
       have hnb26 := NB136_120.out
       have hnc26 := NB120_136.out
       have hnb27 := NB136_128.out
       have hnc27 := NB128_136.out
       have hcz28_0 : wc.cell? ⟨gb136, 0, none⟩ = some (.int .u64 t129) := (bC BK136.out 0).trans rfl
       have hcz28_1 : wc.cell? ⟨gb136, 1, none⟩ = some (.int .i64 t130) := (bC BK136.out 1).trans rfl
       have hcz28_2 : wc.cell? ⟨gb136, 2, none⟩ = some (.int .i64 t131) := (bC BK136.out 2).trans rfl
       have hcz28_3 : wc.cell? ⟨gb136, 3, none⟩ = some (.slice Ao17 t132.length co17) := (bC BK136.out 3).trans rfl
       have hfz28_0 := bF BK136.out 0
       have hfz28_1 := bF BK136.out 1
       have hfz28_2 := bF BK136.out 2
       have hfz28_3 := bF BK136.out 3
       have hnb29 := NB128_120.out
       have hnc29 := NB120_128.out
       have hcz30_0 : wc.cell? ⟨gb128, 0, none⟩ = some (.int .u64 t121) := (bC BK128.out 0).trans rfl
       have hcz30_1 : wc.cell? ⟨gb128, 1, none⟩ = some (.int .i64 t122) := (bC BK128.out 1).trans rfl
       have hcz30_2 : wc.cell? ⟨gb128, 2, none⟩ = some (.int .i64 t123) := (bC BK128.out 2).trans rfl
       have hcz30_3 : wc.cell? ⟨gb128, 3, none⟩ = some (.slice Ao11 t124.length co11) := (bC BK128.out 3).trans rfl
       have hfz30_0 := bF BK128.out 0
       have hfz30_1 := bF BK128.out 1
       have hfz30_2 := bF BK128.out 2
       have hfz30_3 := bF BK128.out 3
       have hcz31_0 : wc.cell? ⟨gb120, 0, none⟩ = some (.int .u64 0) := (bC BK120.out 0).trans rfl
       have hcz31_1 : wc.cell? ⟨gb120, 1, none⟩ = some (.int .i64 0) := (bC BK120.out 1).trans rfl
       have hcz31_2 : wc.cell? ⟨gb120, 2, none⟩ = some (.int .i64 0) := (bC BK120.out 2).trans rfl
       have hcz31_3 : wc.cell? ⟨gb120, 3, none⟩ = some (.slice none 0 0) := (bC BK120.out 3).trans rfl
       have hfz31_0 := bF BK120.out 0
       have hfz31_1 := bF BK120.out 1
       have hfz31_2 := bF BK120.out 2
       have hfz31_3 := bF BK120.out 3
       go_wp2
       refine bodyPost_ret (results_ctt rfl _ _ gb120 25 #[.int .u64 t129, .int .i64 t130, .int .i64 t131, .slice Ao17 t132.length co17] (0, 0) _ rfl (by refine bT ?_; refine bU (cs := #[.int .u64 t129, .int .i64 t130, .int .i64 t131, .slice none 0 0]) ?_ 3 _ rfl; refine bT ?_; refine bU (cs := #[.int .u64 t129, .int .i64 t130, .int .i64 0, .slice none 0 0]) ?_ 2 _ rfl; refine bT ?_; refine bU (cs := #[.int .u64 t129, .int .i64 0, .int .i64 0, .slice none 0 0]) ?_ 1 _ rfl; refine bT ?_; refine bU (cs := #[.int .u64 0, .int .i64 0, .int .i64 0, .slice none 0 0]) ?_ 0 _ rfl; exact bT BK120.out) Tryd.underlying25 rfl (by kernel_rfl)) rfl ?_
       exact ⟨_, by first | rfl | (simp [errW_none, errW_some] <;> rfl) | (simp [*, errW_none, errW_some] <;> rfl), by apply Kd.R_to; exact Kd.R_mono (Kd.R_far (p := ⟨gb120, 3, none⟩) (Kd.R_far (p := ⟨gb120, 2, none⟩) (Kd.R_far (p := ⟨gb120, 1, none⟩) (Kd.R_far (p := ⟨gb120, 0, none⟩) (Kd.R_types HO_137003.out BK120.out (by decide)) (fun _ hk => hk.2) (.int .u64 t129)) (fun _ hk => hk.2) (.int .i64 t130)) (fun _ hk => hk.2) (.int .i64 t131)) (fun _ hk => hk.2) (.slice Ao17 t132.length co17)) (fun _ hk => trivial), bA⟩
      ·rw [if_neg c25] at H
       have c25b0 : decide (t121 < t129) = false := decide_eq_false c25
       clear c25
       simp only [Option.some.injEq, Prod.mk.injEq] at H
       obtain ⟨rfl, rfl, rfl, rfl, rfl, rfl⟩ := H
       have hnb32 := NB136_120.out
       have hnc32 := NB120_136.out
       have hnb33 := NB136_128.out
       have hnc33 := NB128_136.out
       have hcz34_0 : wc.cell? ⟨gb136, 0, none⟩ = some (.int .u64 t129) := (bC BK136.out 0).trans rfl
       have hcz34_1 : wc.cell? ⟨gb136, 1, none⟩ = some (.int .i64 t130) := (bC BK136.out 1).trans rfl
       have hcz34_2 : wc.cell? ⟨gb136, 2, none⟩ = some (.int .i64 t131) := (bC BK136.out 2).trans rfl
       have hcz34_3 : wc.cell? ⟨gb136, 3, none⟩ = some (.slice Ao17 t132.length co17) := (bC BK136.out 3).trans rfl
       have hfz34_0 := bF BK136.out 0
       have hfz34_1 := bF BK136.out 1
       have hfz34_2 := bF BK136.out 2
       have hfz34_3 := bF BK136.out 3
       have hnb35 := NB128_120.out
       have hnc35 := NB120_128.out
       have hcz36_0 : wc.cell? ⟨gb128, 0, none⟩ = some (.int .u64 t121) := (bC BK128.out 0).trans rfl
       have hcz36_1 : wc.cell? ⟨gb128, 1, none⟩ = some (.int .i64 t122) := (bC BK128.out 1).trans rfl
       have hcz36_2 : wc.cell? ⟨gb128, 2, none⟩ = some (.int .i64 t123) := (bC BK128.out 2).trans rfl
       have hcz36_3 : wc.cell? ⟨gb128, 3, none⟩ = some (.slice Ao11 t124.length co11) := (bC BK128.out 3).trans rfl
       have hfz36_0 := bF BK128.out 0
       have hfz36_1 := bF BK128.out 1
       have hfz36_2 := bF BK128.out 2
       have hfz36_3 := bF BK128.out 3
       have hcz37_0 : wc.cell? ⟨gb120, 0, none⟩ = some (.int .u64 0) := (bC BK120.out 0).trans rfl
       have hcz37_1 : wc.cell? ⟨gb120, 1, none⟩ = some (.int .i64 0) := (bC BK120.out 1).trans rfl
       have hcz37_2 : wc.cell? ⟨gb120, 2, none⟩ = some (.int .i64 0) := (bC BK120.out 2).trans rfl
       have hcz37_3 : wc.cell? ⟨gb120, 3, none⟩ = some (.slice none 0 0) := (bC BK120.out 3).trans rfl
       have hfz37_0 := bF BK120.out 0
       have hfz37_1 := bF BK120.out 1
       have hfz37_2 := bF BK120.out 2
       have hfz37_3 := bF BK120.out 3
       go_wp2
       refine bodyPost_ret (results_ctt rfl _ _ gb120 25 #[.int .u64 t121, .int .i64 t122, .int .i64 t123, .slice Ao11 t124.length co11] (0, 0) _ rfl (by refine bT ?_; refine bU (cs := #[.int .u64 t121, .int .i64 t122, .int .i64 t123, .slice none 0 0]) ?_ 3 _ rfl; refine bT ?_; refine bU (cs := #[.int .u64 t121, .int .i64 t122, .int .i64 0, .slice none 0 0]) ?_ 2 _ rfl; refine bT ?_; refine bU (cs := #[.int .u64 t121, .int .i64 0, .int .i64 0, .slice none 0 0]) ?_ 1 _ rfl; refine bT ?_; refine bU (cs := #[.int .u64 0, .int .i64 0, .int .i64 0, .slice none 0 0]) ?_ 0 _ rfl; exact bT BK120.out) Tryd.underlying25 rfl (by kernel_rfl)) rfl ?_
       exact ⟨_, by first | rfl | (simp [errW_none, errW_some] <;> rfl) | (simp [*, errW_none, errW_some] <;> rfl), by apply Kd.R_to; exact Kd.R_mono (Kd.R_far (p := ⟨gb120, 3, none⟩) (Kd.R_far (p := ⟨gb120, 2, none⟩) (Kd.R_far (p := ⟨gb120, 1, none⟩) (Kd.R_far (p := ⟨gb120, 0, none⟩) (Kd.R_types HO_129003.out BK120.out (by decide)) (fun _ hk => hk.2) (.int .u64 t121)) (fun _ hk => hk.2) (.int .i64 t122)) (fun _ hk => hk.2) (.int .i64 t123)) (fun _ hk => hk.2) (.slice Ao11 t124.length co11)) (fun _ hk => trivial), bA⟩
     ·rw [if_neg c24] at H
      have c24b0 : (t135 == 0) = false := beq_eq_false_iff_ne.mpr c24
      have c24b1 : (t135 != 0) = true := bne_iff_ne.mpr c24
      simp only [Option.some.injEq, Prod.mk.injEq] at H
      obtain ⟨rfl, rfl, rfl, rfl, rfl, rfl⟩ := H
      have hnb38 := NB128_120.out
      have hnc38 := NB120_128.out
      have hnb39 := NB128_136.out
      have hnc39 := NB136_128.out
      have hcz40_0 : wc.cell? ⟨gb128, 0, none⟩ = some (.int .u64 t121) := (bC BK128.out 0).trans rfl
      have hcz40_1 : wc.cell? ⟨gb128, 1, none⟩ = some (.int .i64 t122) := (bC BK128.out 1).trans rfl
      have hcz40_2 : wc.cell? ⟨gb128, 2, none⟩ = some (.int .i64 t123) := (bC BK128.out 2).trans rfl
      have hcz40_3 : wc.cell? ⟨gb128, 3, none⟩ = some (.slice Ao11 t124.length co11) := (bC BK128.out 3).trans rfl
      have hfz40_0 := bF BK128.out 0
      have hfz40_1 := bF BK128.out 1
      have hfz40_2 := bF BK128.out 2
      have hfz40_3 := bF BK128.out 3
      have hnb41 := NB120_136.out
      have hnc41 := NB136_120.out
      have hcz42_0 : wc.cell? ⟨gb120, 0, none⟩ = some (.int .u64 0) := (bC BK120.out 0).trans rfl
      have hcz42_1 : wc.cell? ⟨gb120, 1, none⟩ = some (.int .i64 0) := (bC BK120.out 1).trans rfl
      have hcz42_2 : wc.cell? ⟨gb120, 2, none⟩ = some (.int .i64 0) := (bC BK120.out 2).trans rfl
      have hcz42_3 : wc.cell? ⟨gb120, 3, none⟩ = some (.slice none 0 0) := (bC BK120.out 3).trans rfl
      have hfz42_0 := bF BK120.out 0
      have hfz42_1 := bF BK120.out 1
      have hfz42_2 := bF BK120.out 2
      have hfz42_3 := bF BK120.out 3
      go_wp2
      refine bodyPost_ret (results_ctt rfl _ _ gb120 25 #[.int .u64 t121, .int .i64 t122, .int .i64 t123, .slice Ao11 t124.length co11] (0, 0) _ rfl (by refine bT ?_; refine bU (cs := #[.int .u64 t121, .int .i64 t122, .int .i64 t123, .slice none 0 0]) ?_ 3 _ rfl; refine bT ?_; refine bU (cs := #[.int .u64 t121, .int .i64 t122, .int .i64 0, .slice none 0 0]) ?_ 2 _ rfl; refine bT ?_; refine bU (cs := #[.int .u64 t121, .int .i64 0, .int .i64 0, .slice none 0 0]) ?_ 1 _ rfl; refine bT ?_; refine bU (cs := #[.int .u64 0, .int .i64 0, .int .i64 0, .slice none 0 0]) ?_ 0 _ rfl; exact bT BK120.out) Tryd.underlying25 rfl (by kernel_rfl)) rfl ?_
      exact ⟨_, by first | rfl | (simp [errW_none, errW_some] <;> rfl) | (simp [*, errW_none, errW_some] <;> rfl), by apply Kd.R_to; exact Kd.R_mono (Kd.R_far (p := ⟨gb120, 3, none⟩) (Kd.R_far (p := ⟨gb120, 2, none⟩) (Kd.R_far (p := ⟨gb120, 1, none⟩) (Kd.R_far (p := ⟨gb120, 0, none⟩) (Kd.R_types HO_129003.out BK120.out (by decide)) (fun _ hk => hk.2) (.int .u64 t121)) (fun _ hk => hk.2) (.int .i64 t122)) (fun _ hk => hk.2) (.int .i64 t123)) (fun _ hk => hk.2) (.slice Ao11 t124.length co11)) (fun _ hk => trivial), bA⟩
    ·rw [if_neg c23] at H
     have c23b0 : (t127 == 0) = false := beq_eq_false_iff_ne.mpr c23
     have c23b1 : (t127 != 0) = true := bne_iff_ne.mpr c23
     simp only [Option.some.injEq, Prod.mk.injEq] at H
     obtain ⟨rfl, rfl, rfl, rfl, rfl, rfl⟩ := H
     have hnb43 := NB136_120.out
     have hnc43 := NB120_136.out
     have hnb44 := NB136_128.out
     have hnc44 := NB128_136.out
     have hcz45_0 : wc.cell? ⟨gb136, 0, none⟩ = some (.int .u64 t129) := (bC BK136.out 0).trans rfl
     have hcz45_1 : wc.cell? ⟨gb136, 1, none⟩ = some (.int .i64 t130) := (bC BK136.out 1).trans rfl
     have hcz45_2 : wc.cell? ⟨gb136, 2, none⟩ = some (.int .i64 t131) := (bC BK136.out 2).trans rfl
     have hcz45_3 : wc.cell? ⟨gb136, 3, none⟩ = some (.slice Ao17 t132.length co17) := (bC BK136.out 3).trans rfl
     have hfz45_0 := bF BK136.out 0
     have hfz45_1 := bF BK136.out 1
     have hfz45_2 := bF BK136.out 2
     have hfz45_3 := bF BK136.out 3
     have hnb46 := NB120_128.out
     have hnc46 := NB128_120.out
     have hcz47_0 : wc.cell? ⟨gb120, 0, none⟩ = some (.int .u64 0) := (bC BK120.out 0).trans rfl
     have hcz47_1 : wc.cell? ⟨gb120, 1, none⟩ = some (.int .i64 0) := (bC BK120.out 1).trans rfl
     have hcz47_2 : wc.cell? ⟨gb120, 2, none⟩ = some (.int .i64 0) := (bC BK120.out 2).trans rfl
     have hcz47_3 : wc.cell? ⟨gb120, 3, none⟩ = some (.slice none 0 0) := (bC BK120.out 3).trans rfl
     have hfz47_0 := bF BK120.out 0
     have hfz47_1 := bF BK120.out 1
     have hfz47_2 := bF BK120.out 2
     have hfz47_3 := bF BK120.out 3
     go_wp2
     refine bodyPost_ret (results_ctt rfl _ _ gb120 25 #[.int .u64 t129, .int .i64 t130, .int .i64 t131, .slice Ao17 t132.length co17] (0, 0) _ rfl (by refine bT ?_; refine bU (cs := #[.int .u64 t129, .int .i64 t130, .int .i64 t131, .slice none 0 0]) ?_ 3 _ rfl; refine bT ?_; refine bU (cs := #[.int .u64 t129, .int .i64 t130, .int .i64 0, .slice none 0 0]) ?_ 2 _ rfl; refine bT ?_; refine bU (cs := #[.int .u64 t129, .int .i64 0, .int .i64 0, .slice none 0 0]) ?_ 1 _ rfl; refine bT ?_; refine bU (cs := #[.int .u64 0, .int .i64 0, .int .i64 0, .slice none 0 0]) ?_ 0 _ rfl; exact bT BK120.out) Tryd.underlying25 rfl (by kernel_rfl)) rfl ?_
     exact ⟨_, by first | rfl | (simp [errW_none, errW_some] <;> rfl) | (simp [*, errW_none, errW_some] <;> rfl), by apply Kd.R_to; exact Kd.R_mono (Kd.R_far (p := ⟨gb120, 3, none⟩) (Kd.R_far (p := ⟨gb120, 2, none⟩) (Kd.R_far (p := ⟨gb120, 1, none⟩) (Kd.R_far (p := ⟨gb120, 0, none⟩) (Kd.R_types HO_137003.out BK120.out (by decide)) (fun _ hk => hk.2) (.int .u64 t129)) (fun _ hk => hk.2) (.int .i64 t130)) (fun _ hk => hk.2) (.int .i64 t131)) (fun _ hk => hk.2) (.slice Ao17 t132.length co17)) (fun _ hk => trivial), bA⟩
end Go.Proofs.YtcgejogmiglalaaDoor.Fn
end
section
namespace Go.Proofs.YtcgejogmiglalaaDoor.Fn
open Go.RowKit Go.Proofs.YtcgejogmiglalaaDoorW.PrintWords Go.Proofs.YtcgejogmiglalaaDoorW.PrintLast Go.Proofs.YtcgejogmiglalaaDoorW.PrintMore Go.Proofs.YtcgejogmiglalaaDoor.Lf
attribute [local go_sem] max2_int min2_int max_two min_two max_three min_three max_four min_four   -- for this text's walks alone
set_option linter.unusedVariables false
set_option linter.unusedSimpArgs false
def r6_Choose.j0 : Nat → Int → Int → Bool → Int → Int → Int → List (S53) → Int → Int → Int → List (S53) → Option (Int × Int × Int × (List (S53)) × Int × Int)
 | 0, _, _, _, _, _, _, _, _, _, _, _ => none
 | k + 1, x8, x10, x26, x266000, x266001, x266002, x266003, x274000, x274001, x274002, x274003 => if x26 = true then (some (0, 0, 0, ([] : List (S53)), 0, 2)) else (if x8 = 0 then (if x10 = 0 then (if x274000 > x266000 then (some (x274000, x274001, x274002, x274003, 1, 0)) else (some (x266000, x266001, x266002, x266003, 0, 0))) else (some (x266000, x266001, x266002, x266003, 0, 0))) else (some (x274000, x274001, x274002, x274003, 1, 0)))
def r6_Choose.f (k : Nat) (a0 : ByteArray) (a1 : ByteArray) : Option (Int × Int × Int × (List (S53)) × Int × Int) := (r6_Take.f k a0).bind fun bt258 => ((r6_Take.f k a1).bind fun bt266 => (if bt258.2.2.2.2 = 0 then (r6_Choose.j0 k bt258.2.2.2.2 bt266.2.2.2.2 false bt258.1 bt258.2.1 bt258.2.2.1 bt258.2.2.2.1 bt266.1 bt266.2.1 bt266.2.2.1 bt266.2.2.2.1) else (r6_Choose.j0 k bt258.2.2.2.2 bt266.2.2.2.2 (bt266.2.2.2.2 != 0) bt258.1 bt258.2.1 bt258.2.2.1 bt258.2.2.2.1 bt266.1 bt266.2.1 bt266.2.2.1 bt266.2.2.2.1)))
theorem r6_Choose.mono_l : ∀ k, (∀ y0 y1 y2 y3 y4 y5 y6 y7 y8 y9 y10, LeO (r6_Choose.j0 k y0 y1 y2 y3 y4 y5 y6 y7 y8 y9 y10) (r6_Choose.j0 (k + 1) y0 y1 y2 y3 y4 y5 y6 y7 y8 y9 y10))
 | 0 => fun _ _ _ _ _ _ _ _ _ _ _ r h => by simp [r6_Choose.j0] at h
 | k + 1 => by
  have ih0 := r6_Choose.mono_l k
  ·intro y0 y1 y2 y3 y4 y5 y6 y7 y8 y9 y10
   unfold r6_Choose.j0
   repeat' first
   | (with_reducible exact ih0 _ _ _ _ _ _ _ _ _ _ _)
   | (with_reducible exact r6_Take.mono _ _)
   | (with_reducible exact LeO.refl _)
   | (with_reducible exact LeO.none _)
   | (with_reducible refine LeO.ite ?_ ?_)
   | (with_reducible refine LeO.bind ?_ (fun _ => ?_))
   | exact ih0 _ _ _ _ _ _ _ _ _ _ _
   | exact r6_Take.mono _ _
   | exact LeO.none _
   | refine LeO.ite ?_ ?_
   | refine LeO.bind ?_ (fun _ => ?_)
theorem r6_Choose.mono : ∀ a0 a1 k, LeO (r6_Choose.f k a0 a1) (r6_Choose.f (k + 1) a0 a1) := by
 intro a0 a1 k
 have ih0 := r6_Choose.mono_l k
 unfold r6_Choose.f
 repeat' first
   | (with_reducible exact ih0 _ _ _ _ _ _ _ _ _ _ _)
   | (with_reducible exact r6_Take.mono _ _)
   | (with_reducible exact LeO.refl _)
   | (with_reducible exact LeO.none _)
   | (with_reducible refine LeO.ite ?_ ?_)
   | (with_reducible refine LeO.bind ?_ (fun _ => ?_))
   | exact ih0 _ _ _ _ _ _ _ _ _ _ _
   | exact r6_Take.mono _ _
   | exact LeO.none _
   | refine LeO.ite ?_ ?_
   | refine LeO.bind ?_ (fun _ => ?_)
end Go.Proofs.YtcgejogmiglalaaDoor.Fn
end
section
namespace Go.Proofs.YtcgejogmiglalaaDoor.Fn
open Go.RowKit Go.Proofs.YtcgejogmiglalaaDoorW.PrintWords Go.Proofs.YtcgejogmiglalaaDoorW.PrintLast Go.Proofs.YtcgejogmiglalaaDoorW.PrintMore Go.Proofs.YtcgejogmiglalaaDoor.Lf
attribute [local go_sem] max2_int min2_int max_two min_two max_three min_three max_four min_four   -- for this text's walks alone
set_option linter.unusedVariables false
set_option linter.unusedSimpArgs false
attribute [local go_sem high] eqA53
def l6_sameSpans.l0 : Nat → List (S53) → List (S53) → Int → Option (Bool)
 | 0, _, _, _ => none
 | k + 1, x0, x1, x5 => if x5 < (x0.length : Int) then (if 0 ≤ x5 then (if x5 < (x1.length : Int) then (if (!(((rd_T53 x0 x5).f0) == ((rd_T53 x1 x5).f0)) || (!(((rd_T53 x0 x5).f1) == ((rd_T53 x1 x5).f1)))) = true then (some false) else (l6_sameSpans.l0 k x0 x1 (wrap64 (x5 + 1)))) else (none)) else (none)) else (some true)
def l6_sameSpans.f (k : Nat) (l0 : List (S53)) (l1 : List (S53)) : Option (Bool) := if (l0.length : Int) = (l1.length : Int) then (l6_sameSpans.l0 k l0 l1 0) else (some false)
theorem l6_sameSpans.mono_l : ∀ k, (∀ y0 y1 y2, LeO (l6_sameSpans.l0 k y0 y1 y2) (l6_sameSpans.l0 (k + 1) y0 y1 y2))
 | 0 => fun _ _ _ r h => by simp [l6_sameSpans.l0] at h
 | k + 1 => by
  have ih0 := l6_sameSpans.mono_l k
  ·intro y0 y1 y2
   unfold l6_sameSpans.l0
   repeat' first
   | (with_reducible exact ih0 _ _ _)
   | (with_reducible exact LeO.refl _)
   | (with_reducible exact LeO.none _)
   | (with_reducible refine LeO.ite ?_ ?_)
   | (with_reducible refine LeO.bind ?_ (fun _ => ?_))
   | exact ih0 _ _ _
   | exact LeO.none _
   | refine LeO.ite ?_ ?_
   | refine LeO.bind ?_ (fun _ => ?_)
theorem l6_sameSpans.mono : ∀ a0 a1 k, LeO (l6_sameSpans.f k a0 a1) (l6_sameSpans.f (k + 1) a0 a1) := by
 intro a0 a1 k
 have ih0 := l6_sameSpans.mono_l k
 unfold l6_sameSpans.f
 repeat' first
   | (with_reducible exact ih0 _ _ _)
   | (with_reducible exact LeO.refl _)
   | (with_reducible exact LeO.none _)
   | (with_reducible refine LeO.ite ?_ ?_)
   | (with_reducible refine LeO.bind ?_ (fun _ => ?_))
   | exact ih0 _ _ _
   | exact LeO.none _
   | refine LeO.ite ?_ ?_
   | refine LeO.bind ?_ (fun _ => ?_)
def l6_same.f (k : Nat) (a0_0 : Int) (a0_1 : Int) (a0_2 : Int) (l0_3 : List (S53)) (a1_0 : Int) (a1_1 : Int) (a1_2 : Int) (l1_3 : List (S53)) : Option (Bool) := if a0_0 = a1_0 then (if a0_1 = a1_1 then (if a0_2 = a1_2 then ((l6_sameSpans.f k l0_3 l1_3).bind fun t278 => (some t278)) else (some false)) else (some false)) else (some false)
theorem l6_same.mono : ∀ a0 a1 a2 a3 a4 a5 a6 a7 k, LeO (l6_same.f k a0 a1 a2 a3 a4 a5 a6 a7) (l6_same.f (k + 1) a0 a1 a2 a3 a4 a5 a6 a7) := by
 intro a0 a1 a2 a3 a4 a5 a6 a7 k
 unfold l6_same.f
 repeat' first
   | (with_reducible exact l6_sameSpans.mono _ _ _)
   | (with_reducible exact LeO.refl _)
   | (with_reducible exact LeO.none _)
   | (with_reducible refine LeO.ite ?_ ?_)
   | (with_reducible refine LeO.bind ?_ (fun _ => ?_))
   | exact l6_sameSpans.mono _ _ _
   | exact LeO.none _
   | refine LeO.ite ?_ ?_
   | refine LeO.bind ?_ (fun _ => ?_)
end Go.Proofs.YtcgejogmiglalaaDoor.Fn
end
section
namespace Go.Proofs.YtcgejogmiglalaaDoor.Fn
open Go.RowKit Go.Proofs.YtcgejogmiglalaaDoorW.PrintWords Go.Proofs.YtcgejogmiglalaaDoorW.PrintLast Go.Proofs.YtcgejogmiglalaaDoorW.PrintMore Go.Proofs.YtcgejogmiglalaaDoor.Lf
open List (setIfInBounds_toArray set_cons_zero set_cons_succ)
attribute [local go_sem] max2_int min2_int max_two min_two max_three min_three max_four min_four   -- for this text's walks alone
set_option linter.unusedVariables false
set_option linter.unusedSimpArgs false
def l6_shown.j0 : Nat → ByteArray → ByteArray → Bool → Option (Bool)
 | 0, _, _, _ => none
 | k + 1, x1, x3, x38 => if x38 = true then (some false) else ((head_Choose.f k x1 x3).bind fun bt144 => (if 1 ≤ (x3.size : Int) then (if 1 + (x3.size - 1) ≤ 9223372036854775807 then ((head_Choose.f k x1 ((⟨#[113]⟩ : ByteArray) ++ (x3.extract 1 x3.size))).bind fun bt153 => (if bt144.1 = 8 then (if bt144.2.2.2.2.1 = 1 then (if bt144.2.2.2.2.2 = 0 then (if bt153.1 = 7 then (if bt153.2.2.2.2.1 = 0 then (if bt153.2.2.2.2.2 = 0 then (some (bt153.2.2.1 == 65)) else (some false)) else (some false)) else (some false)) else (some false)) else (some false)) else (some false))) else (none)) else (none)))
def l6_shown.f (k : Nat)  : Option (Bool) := (head_Put.f k 7 9 65 (([(⟨2, 2⟩ : S53)] : List (S53)))).bind fun bt140 => ((head_Put.f k 8 9 0 ([] : List (S53))).bind fun bt142 => (if (bt140.1.size : Int) = 64 then (if (bt142.1.size : Int) = 64 then (if bt140.2 = 0 then (l6_shown.j0 k bt140.1 bt142.1 (bt142.2 != 0)) else (l6_shown.j0 k bt140.1 bt142.1 true)) else (l6_shown.j0 k bt140.1 bt142.1 true)) else (l6_shown.j0 k bt140.1 bt142.1 true)))
theorem l6_shown.mono_l : ∀ k, (∀ y0 y1 y2, LeO (l6_shown.j0 k y0 y1 y2) (l6_shown.j0 (k + 1) y0 y1 y2))
 | 0 => fun _ _ _ r h => by simp [l6_shown.j0] at h
 | k + 1 => by
  have ih0 := l6_shown.mono_l k
  ·intro y0 y1 y2
   unfold l6_shown.j0
   repeat' first
   | (with_reducible exact ih0 _ _ _)
   | (with_reducible exact head_Choose.mono _ _ _)
   | (with_reducible exact head_Put.mono _ _ _ _ _)
   | (with_reducible exact LeO.refl _)
   | (with_reducible exact LeO.none _)
   | (with_reducible refine LeO.ite ?_ ?_)
   | (with_reducible refine LeO.bind ?_ (fun _ => ?_))
   | exact ih0 _ _ _
   | exact head_Choose.mono _ _ _
   | exact head_Put.mono _ _ _ _ _
   | exact LeO.none _
   | refine LeO.ite ?_ ?_
   | refine LeO.bind ?_ (fun _ => ?_)
theorem l6_shown.mono : ∀ k, LeO (l6_shown.f k ) (l6_shown.f (k + 1) ) := by
 intro  k
 have ih0 := l6_shown.mono_l k
 unfold l6_shown.f
 repeat' first
   | (with_reducible exact ih0 _ _ _)
   | (with_reducible exact head_Choose.mono _ _ _)
   | (with_reducible exact head_Put.mono _ _ _ _ _)
   | (with_reducible exact LeO.refl _)
   | (with_reducible exact LeO.none _)
   | (with_reducible refine LeO.ite ?_ ?_)
   | (with_reducible refine LeO.bind ?_ (fun _ => ?_))
   | exact ih0 _ _ _
   | exact head_Choose.mono _ _ _
   | exact head_Put.mono _ _ _ _ _
   | exact LeO.none _
   | refine LeO.ite ?_ ?_
   | refine LeO.bind ?_ (fun _ => ?_)
set_option maxHeartbeats 8000000 in
set_option maxRecDepth 100000 in
theorem l6_shown.calls (k : Nat)  (r : Bool) (w : World) (h : l6_shown.f k  = some r) :
  Calls Tryd.prog 9 #[] w fun e w' => e = .returned (.bool r) ∧ Below w.heap.size w w' := by
 have hu53 := Tryd.underlying53
 have hu25 := Tryd.underlying25
 have HB := Ax.mk (Below.refl w.heap.size w)
 have H : ((head_Put.f k 7 9 65 (([(⟨2, 2⟩ : S53)] : List (S53)))).bind fun bt140 => ((head_Put.f k 8 9 0 ([] : List (S53))).bind fun bt142 => (if (bt140.1.size : Int) = 64 then (if (bt142.1.size : Int) = 64 then (if bt140.2 = 0 then (l6_shown.j0 k bt140.1 bt142.1 (bt142.2 != 0)) else (l6_shown.j0 k bt140.1 bt142.1 true)) else (l6_shown.j0 k bt140.1 bt142.1 true)) else (l6_shown.j0 k bt140.1 bt142.1 true)))) = some r := h
 clear h
 obtain ⟨y137, hy137⟩ : ∃ y_ : List (S53), y_ = (([(⟨2, 2⟩ : S53)] : List (S53))) := ⟨_, rfl⟩
 replace H : ((head_Put.f k 7 9 65 y137).bind fun bt140 => ((head_Put.f k 8 9 0 ([] : List (S53))).bind fun bt142 => (if (bt140.1.size : Int) = 64 then (if (bt142.1.size : Int) = 64 then (if bt140.2 = 0 then (l6_shown.j0 k bt140.1 bt142.1 (bt142.2 != 0)) else (l6_shown.j0 k bt140.1 bt142.1 true)) else (l6_shown.j0 k bt140.1 bt142.1 true)) else (l6_shown.j0 k bt140.1 bt142.1 true)))) = some r := by first | (rw [hy137]; with_reducible exact H) | (have H2_ := (Option.bind_some _ _).symm.trans H; rw [hy137]; with_reducible exact H2_) | (have H2_ := (Option.bind_some _ _).symm.trans H; with_reducible exact H2_) | with_reducible exact H | (rw [hy137]; exact H) | exact H
 have Ny137 := Ax.mk hy137
 clear hy137
 replace H := Option.bind_eq_some_iff.mp H
 obtain ⟨⟨t140, t141⟩, A10, H⟩ := H
 replace H : ((head_Put.f k 8 9 0 ([] : List (S53))).bind fun bt142 => (if (t140.size : Int) = 64 then (if (bt142.1.size : Int) = 64 then (if t141 = 0 then (l6_shown.j0 k t140 bt142.1 (bt142.2 != 0)) else (l6_shown.j0 k t140 bt142.1 true)) else (l6_shown.j0 k t140 bt142.1 true)) else (l6_shown.j0 k t140 bt142.1 true))) = some r := H
 have A1 := Ax.mk A10
 clear A10
 replace H := Option.bind_eq_some_iff.mp H
 obtain ⟨⟨t142, t143⟩, A20, H⟩ := H
 replace H : (if (t140.size : Int) = 64 then (if (t142.size : Int) = 64 then (if t141 = 0 then (l6_shown.j0 k t140 t142 (t143 != 0)) else (l6_shown.j0 k t140 t142 true)) else (l6_shown.j0 k t140 t142 true)) else (l6_shown.j0 k t140 t142 true)) = some r := H
 have A2 := Ax.mk A20
 clear A20
 have HC3 := Ax.mk H
 clear H
 go_enter Tryd.func9, Tryd.ntmps9
 go_upto_region 3 with (first | ((with_reducible refine gate_dst (N := 13) rfl ?_); (try (refine gate_guard (by rfl) ?_; dsimp only)); refine Kd.R_lit k53 _ 53 ?hg (N := 13) ?hd (xs := ([(⟨2, 2⟩ : S53)] : List (S53))) (inner := [.int .i64 2, .int .i64 2]) (ok := fun _ => True) (okp := fun _ => True) ?hr ?hp (fun _ hk => hk) trivial (Below.refl _ _) (Nat.le_refl _) (by simp) ?_; (case hd => rfl); (case hg => rfl); (case hr => first | (go_simp; done) | (go_simp; rfl)); (case hp => exact (Reps.c2 (show Kd.M k53 _ _ _ (⟨2, 2⟩ : S53) [.int .i64 2, .int .i64 2] from (k53_mkM _ _ _ (⟨2, 2⟩ : S53) )) (Reps.none _ _))); intro v138 w4 ho5 hb hg_ hnew_; clear hg_ hnew_; (first | rw [← Ny137.out] at ho5 | (simp only [Int.reduceToNat] at ho5; rw [← Ny137.out] at ho5)); have n0_ := Ax.mk (Kd.R_lower ho5 (bS bA)); have n1_ := Ax.mk (bP bA hb); clear HB; have HO139 := n0_; have HB := n1_; clear n0_ n1_; clear hb ho5; obtain ⟨Ao6, co6, eo6⟩ := Kd.R_slice HO139.out; subst eo6) | ((with_reducible refine gate_callee (f := 10) rfl ?_); refine goesL_ (some 15) rfl rfl Tryd.func10 (by kernel_rfl) rfl #[.agg #[.int .u64 7, .int .i64 9, .int .i64 65, .slice Ao6 y137.length co6]] rfl (by (try simp only [List.map_toArray, List.map_cons, List.map_nil]); first | done | rfl | (simp only [List.length_drop, List.length_take]; rfl) | (rw [wrap_sum2 (by assumption)]; rfl)) ?_; (with_reducible refine (head_Put.calls k 7 9 65 _ _ y137 t140 t141 _ ?side1 ?side2 A1.out).mono ?_); (case side1 => repeat (first | exact (Kd.R_reads' HO139.out).2.2 | (with_reducible refine Kd.C_alloc ?_ _) | (with_reducible refine Kd.C_drewN ?_ _) | (with_reducible refine Kd.C_drew ?_))); (case side2 => exact (Kd.R_reads' HO139.out).2.1); rintro e w7 ⟨rfl, hb⟩; refine ⟨_, rfl, ?_⟩; have n0_ := Ax.mk (Kd.R_below (by exact Kd.R_to HO139.out) hb); have n1_ := Ax.mk (bP bA hb); clear HO139; clear HB; have HO139 := n0_; have HB := n1_; clear n0_ n1_; (try clear hb); (try clear hb2); (try clear hk); (try clear hi)) | ((with_reducible refine gate_callee (f := 10) rfl ?_); refine goesL_ (some 20) rfl rfl Tryd.func10 (by kernel_rfl) rfl #[.agg #[.int .u64 8, .int .i64 9, .int .i64 0, .slice none 0 0]] rfl (by (try simp only [List.map_toArray, List.map_cons, List.map_nil]); first | done | rfl | (simp only [List.length_drop, List.length_take]; rfl) | (rw [wrap_sum2 (by assumption)]; rfl)) ?_; (refine (head_Put.calls k 8 9 0 _ _ ([] : List (S53)) t142 t143 _ ?side1 ?side2 A2.out).mono ?_); (case side1 => exact Kd.C_nil _ _); (case side2 => exact Nat.le_refl _); rintro e w8 ⟨rfl, hb⟩; refine ⟨_, rfl, ?_⟩; have n0_ := Ax.mk (Kd.R_below (by exact Kd.R_to HO139.out) hb); have n1_ := Ax.mk (bP bA hb); clear HO139; clear HB; have HO139 := n0_; have HB := n1_; clear n0_ n1_; (try clear hb); (try clear hb2); (try clear hk); (try clear hi)))
 (try simp only [Act.put, setIfInBounds_toArray, set_cons_zero, set_cons_succ])
 go_cut [38] (fun v38 wc => ∃ (kq : Nat) (x38_2 : Bool), v38 = .bool x38_2 ∧ Ax (l6_shown.j0 kq t140 t142 x38_2 = some r) ∧ Ax (kq ≤ k) ∧ Ax (Below w.heap.size w wc))
 case first =>
  have H := HC3.out
  clear HC3
  by_cases c9 : (t140.size : Int) = 64
  ·rw [if_pos c9] at H
   have c9b0 : ((t140.size : Int) == 64) = true := beq_iff_eq.mpr c9
   have c9b1 : ((t140.size : Int) != 64) = false := bne_eq_false_iff_eq.mpr c9
   clear c9
   (first | rw [c9b0] | (simp only [i64_w, i32_w]; rw [c9b0]) | skip)
   by_cases c10 : (t142.size : Int) = 64
   ·rw [if_pos c10] at H
    have c10b0 : ((t142.size : Int) == 64) = true := beq_iff_eq.mpr c10
    have c10b1 : ((t142.size : Int) != 64) = false := bne_eq_false_iff_eq.mpr c10
    clear c10
    by_cases c11 : t141 = 0
    ·rw [if_pos c11] at H
     have c11b0 : (t141 == 0) = true := beq_iff_eq.mpr c11
     have c11b1 : (t141 != 0) = false := bne_eq_false_iff_eq.mpr c11
     clear c11
     have H' := Ax.mk H
     clear H
     go_wp2
     go_meet
     case rel => exact ⟨_, ((t143 != 0)), (by first | rfl | (simp; done) | (simp [*]; done)), H', ⟨by first | omega | exact Nat.le_refl _⟩, ⟨bA⟩⟩
    ·rw [if_neg c11] at H
     have c11b0 : (t141 == 0) = false := beq_eq_false_iff_ne.mpr c11
     have c11b1 : (t141 != 0) = true := bne_iff_ne.mpr c11
     have H' := Ax.mk H
     clear H
     go_wp2
     go_meet
     case rel => exact ⟨_, (true), (by first | rfl | (simp; done) | (simp [*]; done)), H', ⟨by first | omega | exact Nat.le_refl _⟩, ⟨bA⟩⟩
   ·rw [if_neg c10] at H
    have c10b0 : ((t142.size : Int) == 64) = false := beq_eq_false_iff_ne.mpr c10
    have c10b1 : ((t142.size : Int) != 64) = true := bne_iff_ne.mpr c10
    have H' := Ax.mk H
    clear H
    go_wp2
    go_meet
    case rel => exact ⟨_, (true), (by first | rfl | (simp; done) | (simp [*]; done)), H', ⟨by first | omega | exact Nat.le_refl _⟩, ⟨bA⟩⟩
  ·rw [if_neg c9] at H
   have c9b0 : ((t140.size : Int) == 64) = false := beq_eq_false_iff_ne.mpr c9
   have c9b1 : ((t140.size : Int) != 64) = true := bne_iff_ne.mpr c9
   (first | rw [c9b0] | (simp only [i64_w, i32_w]; rw [c9b0]) | skip)
   have H' := Ax.mk H
   clear H
   go_wp2
   go_meet
   case rel => exact ⟨_, (true), (by first | rfl | (simp; done) | (simp [*]; done)), H', ⟨by first | omega | exact Nat.le_refl _⟩, ⟨bA⟩⟩
 case rest =>
  clear HC3
  try clear c1
  try clear c2
  try clear p2
  try clear c9
  try clear c9b0
  try clear c9b1
  try clear c10
  try clear c10b0
  try clear c10b1
  try clear c11
  try clear c11b0
  try clear c11b1
  obtain ⟨kq, x38_2, rfl, HA, HJ2, HB⟩ := hcut
  cases kq with
  | zero => exact absurd HA.out (by simp [l6_shown.j0])
  | succ kj2 =>
   have H := HA.out
   clear HA
   simp only [l6_shown.j0] at H
   by_cases c12 : x38_2 = true
   ·subst c12
    have H1 : (some false) = some r := by rw [if_pos rfl] at H; exact H
    clear H
    have H := H1
    clear H1
    obtain rfl := Option.some.inj H
    go_wp2
    go_ret
    exact ⟨by first | rfl | (simp [errW_none, errW_some] <;> rfl) | (simp [*, errW_none, errW_some] <;> rfl), bA⟩
   ·replace c12 := Bool.eq_false_iff.mpr c12
    subst c12
    have H1 : ((head_Choose.f kj2 t140 t142).bind fun bt144 => (if 1 ≤ (t142.size : Int) then (if 1 + (t142.size - 1) ≤ 9223372036854775807 then ((head_Choose.f kj2 t140 ((⟨#[113]⟩ : ByteArray) ++ (t142.extract 1 t142.size))).bind fun bt153 => (if bt144.1 = 8 then (if bt144.2.2.2.2.1 = 1 then (if bt144.2.2.2.2.2 = 0 then (if bt153.1 = 7 then (if bt153.2.2.2.2.1 = 0 then (if bt153.2.2.2.2.2 = 0 then (some (bt153.2.2.1 == 65)) else (some false)) else (some false)) else (some false)) else (some false)) else (some false)) else (some false))) else (none)) else (none))) = some r := by rw [if_neg (show ¬ (false = true) by decide)] at H; exact H
    clear H
    have H := H1
    clear H1
    replace H := Option.bind_eq_some_iff.mp H
    obtain ⟨⟨t144, t145, t146, t147, t150, t151⟩, A130, H⟩ := H
    replace H : (if 1 ≤ (t142.size : Int) then (if 1 + (t142.size - 1) ≤ 9223372036854775807 then ((head_Choose.f kj2 t140 ((⟨#[113]⟩ : ByteArray) ++ (t142.extract 1 t142.size))).bind fun bt153 => (if t144 = 8 then (if t150 = 1 then (if t151 = 0 then (if bt153.1 = 7 then (if bt153.2.2.2.2.1 = 0 then (if bt153.2.2.2.2.2 = 0 then (some (bt153.2.2.1 == 65)) else (some false)) else (some false)) else (some false)) else (some false)) else (some false)) else (some false))) else (none)) else (none)) = some r := H
    have A13 := Ax.mk A130
    clear A130
    by_cases c14 : 1 ≤ (t142.size : Int)
    ·rw [if_pos c14] at H
     have c14b0 := eq_true c14
     have c14b1 : decide (1 ≤ (t142.size : Int)) = true := decide_eq_true c14
     clear c14
     by_cases c15 : 1 + (t142.size - 1) ≤ 9223372036854775807
     ·rw [if_pos c15] at H
      have c15b0 := eq_true c15
      have c15b1 : decide (1 + (t142.size - 1) ≤ 9223372036854775807) = true := decide_eq_true c15
      try have c15b2 : (9223372036854775807 < 1 + (t142.size - 1)) = False := eq_false (Nat.not_lt.2 c15)
      replace H := Option.bind_eq_some_iff.mp H
      obtain ⟨⟨t153, t154, t155, t156, t159, t160⟩, A160, H⟩ := H
      replace H : (if t144 = 8 then (if t150 = 1 then (if t151 = 0 then (if t153 = 7 then (if t159 = 0 then (if t160 = 0 then (some (t155 == 65)) else (some false)) else (some false)) else (some false)) else (some false)) else (some false)) else (some false)) = some r := H
      have A16 := Ax.mk A160
      clear A160
      by_cases c17 : t144 = 8
      ·rw [if_pos c17] at H
       have c17b0 : (t144 == 8) = true := beq_iff_eq.mpr c17
       have c17b1 : (t144 != 8) = false := bne_eq_false_iff_eq.mpr c17
       clear c17
       by_cases c18 : t150 = 1
       ·rw [if_pos c18] at H
        have c18b0 : (t150 == 1) = true := beq_iff_eq.mpr c18
        have c18b1 : (t150 != 1) = false := bne_eq_false_iff_eq.mpr c18
        clear c18
        by_cases c19 : t151 = 0
        ·rw [if_pos c19] at H
         have c19b0 : (t151 == 0) = true := beq_iff_eq.mpr c19
         have c19b1 : (t151 != 0) = false := bne_eq_false_iff_eq.mpr c19
         clear c19
         by_cases c20 : t153 = 7
         ·rw [if_pos c20] at H
          have c20b0 : (t153 == 7) = true := beq_iff_eq.mpr c20
          have c20b1 : (t153 != 7) = false := bne_eq_false_iff_eq.mpr c20
          clear c20
          by_cases c21 : t159 = 0
          ·rw [if_pos c21] at H
           have c21b0 : (t159 == 0) = true := beq_iff_eq.mpr c21
           have c21b1 : (t159 != 0) = false := bne_eq_false_iff_eq.mpr c21
           clear c21
           by_cases c22 : t160 = 0
           ·rw [if_pos c22] at H
            have c22b0 : (t160 == 0) = true := beq_iff_eq.mpr c22
            have c22b1 : (t160 != 0) = false := bne_eq_false_iff_eq.mpr c22
            clear c22
            obtain rfl := Option.some.inj H
            go_wp2_with (first | ((with_reducible refine gate_callee (f := 18) rfl ?_); refine goesL_ (some 42) rfl rfl Tryd.func18 (by kernel_rfl) rfl #[.string t140, .string t142] rfl (by (try simp only [List.map_toArray, List.map_cons, List.map_nil]); first | done | rfl | (simp only [List.length_drop, List.length_take]; rfl) | (rw [wrap_sum2 (by assumption)]; rfl)) ?_; (with_reducible refine (head_Choose.calls kj2 t140 t142 t144 t145 t146 t147 t150 t151 _ A13.out).mono ?_); rintro e w23 ⟨v148, rfl, ho0, hb⟩; refine ⟨_, rfl, ?_⟩; have n0_ := Ax.mk (Kd.R_lower ho0 (bS bA)); have n1_ := Ax.mk (bP bA hb); clear HB; have HO149 := n0_; have HB := n1_; clear n0_ n1_; (try clear hb); (try clear hb2); (try clear hk); (try clear hi); (try clear ho0)) | ((with_reducible refine gate_dst (N := 5) rfl ?_); (try (refine gate_guard (by rfl) ?_; dsimp only)); refine box_event ?hg (N := 5) ?hd (cs := #[.int .u64 0, .int .i64 0, .int .i64 0, .slice none 0 0]) (t := 25) ?hr ?_; (case hd => rfl); (case hg => rfl); (case hr => first | (go_simp; done) | (go_simp; rfl)); intro gb152 hg w24 hbox hb; have n0_ := Ax.mk (Kd.R_below (by exact Kd.R_to HO149.out) hb); have n1_ := Ax.mk (bP bA hb); have n2_ := Ax.mk (hbox); have n3_ := Ax.mk ((ge_new hg : w.heap.size ≤ gb152)); have n4_ := n3_; clear HO149; clear HB; have HO149 := n0_; have HB := n1_; have BK152 := n2_; have GW152 := n3_; have GE152 := n4_; clear n0_ n1_ n2_ n3_ n4_; clear hb hbox hg; have hcz25_0 : w24.cell? ⟨gb152, 0, none⟩ = some (.int .u64 0) := (bC BK152.out 0).trans rfl; have hcz25_1 : w24.cell? ⟨gb152, 1, none⟩ = some (.int .i64 0) := (bC BK152.out 1).trans rfl; have hcz25_2 : w24.cell? ⟨gb152, 2, none⟩ = some (.int .i64 0) := (bC BK152.out 2).trans rfl; have hcz25_3 : w24.cell? ⟨gb152, 3, none⟩ = some (.slice none 0 0) := (bC BK152.out 3).trans rfl; have hfz25_0 := bF BK152.out 0; have hfz25_1 := bF BK152.out 1; have hfz25_2 := bF BK152.out 2; have hfz25_3 := bF BK152.out 3; obtain ⟨Ao26, co26, eo26⟩ := Kd.R_slice HO149.out; subst eo26) | ((with_reducible refine gate_callee (f := 18) rfl ?_); refine goesL_ (some 51) rfl rfl Tryd.func18 (by kernel_rfl) rfl #[.string t140, .string ((⟨#[113]⟩ : ByteArray) ++ (t142.extract 1 t142.size))] rfl (by (try simp only [List.map_toArray, List.map_cons, List.map_nil]); first | done | rfl | (simp only [List.length_drop, List.length_take]; rfl) | (rw [wrap_sum2 (by assumption)]; rfl)) ?_; (with_reducible refine (head_Choose.calls kj2 t140 ((⟨#[113]⟩ : ByteArray) ++ (t142.extract 1 t142.size)) t153 t154 t155 t156 t159 t160 _ A16.out).mono ?_); rintro e w27 ⟨v157, rfl, ho0, hb⟩; refine ⟨_, rfl, ?_⟩; have n0_ := Ax.mk (Kd.R_elder' (by apply Kd.R_to; exact (Kd.R_mono (Kd.R_far (p := ⟨gb152, 3, none⟩) (Kd.R_far (p := ⟨gb152, 2, none⟩) (Kd.R_far (p := ⟨gb152, 1, none⟩) (Kd.R_far (p := ⟨gb152, 0, none⟩) (Kd.R_types HO149.out BK152.out (by decide)) (fun _ hk => hk.2) (.int .u64 t144)) (fun _ hk => hk.2) (.int .i64 t145)) (fun _ hk => hk.2) (.int .i64 t146)) (fun _ hk => hk.2) (.slice Ao26 t147.length co26)) (fun _ h_ => h_.1))) (Kd.R_base ho0) hb); have n1_ := Ax.mk (Kd.R_lower (Kd.R_new' ho0 (Kd.R_lt (by apply Kd.R_to; exact (Kd.R_mono (Kd.R_far (p := ⟨gb152, 3, none⟩) (Kd.R_far (p := ⟨gb152, 2, none⟩) (Kd.R_far (p := ⟨gb152, 1, none⟩) (Kd.R_far (p := ⟨gb152, 0, none⟩) (Kd.R_types HO149.out BK152.out (by decide)) (fun _ hk => hk.2) (.int .u64 t144)) (fun _ hk => hk.2) (.int .i64 t145)) (fun _ hk => hk.2) (.int .i64 t146)) (fun _ hk => hk.2) (.slice Ao26 t147.length co26)) (fun _ h_ => h_.1))))) (bS bA)); have n2_ := Ax.mk (bB (g := gb152) (o := .cells #[.int .u64 t144, .int .i64 t145, .int .i64 t146, .slice Ao26 t147.length co26] 25 (0, 0)) (by refine bT ?_; refine bU (cs := #[.int .u64 t144, .int .i64 t145, .int .i64 t146, .slice none 0 0]) ?_ 3 _ rfl; refine bT ?_; refine bU (cs := #[.int .u64 t144, .int .i64 t145, .int .i64 0, .slice none 0 0]) ?_ 2 _ rfl; refine bT ?_; refine bU (cs := #[.int .u64 t144, .int .i64 0, .int .i64 0, .slice none 0 0]) ?_ 1 _ rfl; refine bT ?_; refine bU (cs := #[.int .u64 0, .int .i64 0, .int .i64 0, .slice none 0 0]) ?_ 0 _ rfl; exact bT BK152.out) hb); have n3_ := Ax.mk (bP bA hb); clear HO149; clear BK152; clear HB; have HO149 := n0_; have HO158 := n1_; have BK152 := n2_; have HB := n3_; clear n0_ n1_ n2_ n3_; (try clear hb); (try clear hb2); (try clear hk); (try clear hi); (try clear ho0)) | ((with_reducible refine gate_dst (N := 8) rfl ?_); (try (refine gate_guard (by rfl) ?_; dsimp only)); refine box_event ?hg (N := 8) ?hd (cs := #[.int .u64 0, .int .i64 0, .int .i64 0, .slice none 0 0]) (t := 25) ?hr ?_; (case hd => rfl); (case hg => rfl); (case hr => first | (go_simp; done) | (go_simp; rfl)); intro gb161 hg w28 hbox hb; have n0_ := Ax.mk (Kd.R_below (by exact Kd.R_to HO149.out) hb); have n1_ := Ax.mk (Kd.R_below (by exact Kd.R_to HO158.out) hb); have n2_ := Ax.mk (bB (bT BK152.out) hb); have n3_ := Ax.mk (bP bA hb); have n4_ := Ax.mk (hbox); have n5_ := Ax.mk ((ge_new hg : w.heap.size ≤ gb161)); have n6_ := n5_; have n7_ := Ax.mk ((ne_lt hg BK152.out : gb152 ≠ gb161)); have n8_ := Ax.mk ((ne_gt hg BK152.out : gb161 ≠ gb152)); clear HO149; clear HO158; clear BK152; clear HB; have HO149 := n0_; have HO158 := n1_; have BK152 := n2_; have HB := n3_; have BK161 := n4_; have GW161 := n5_; have GE161 := n6_; have NB152_161 := n7_; have NB161_152 := n8_; clear n0_ n1_ n2_ n3_ n4_ n5_ n6_ n7_ n8_; clear hb hbox hg; have hnb29 := NB161_152.out; have hnc29 := NB152_161.out; have hcz30_0 : w28.cell? ⟨gb161, 0, none⟩ = some (.int .u64 0) := (bC BK161.out 0).trans rfl; have hcz30_1 : w28.cell? ⟨gb161, 1, none⟩ = some (.int .i64 0) := (bC BK161.out 1).trans rfl; have hcz30_2 : w28.cell? ⟨gb161, 2, none⟩ = some (.int .i64 0) := (bC BK161.out 2).trans rfl; have hcz30_3 : w28.cell? ⟨gb161, 3, none⟩ = some (.slice none 0 0) := (bC BK161.out 3).trans rfl; have hfz30_0 := bF BK161.out 0; have hfz30_1 := bF BK161.out 1; have hfz30_2 := bF BK161.out 2; have hfz30_3 := bF BK161.out 3; obtain ⟨Ao31, co31, eo31⟩ := Kd.R_slice HO158.out; subst eo31; have hcz32_0 : w28.cell? ⟨gb152, 0, none⟩ = some (.int .u64 t144) := (bC BK152.out 0).trans rfl; have hcz32_1 : w28.cell? ⟨gb152, 1, none⟩ = some (.int .i64 t145) := (bC BK152.out 1).trans rfl; have hcz32_2 : w28.cell? ⟨gb152, 2, none⟩ = some (.int .i64 t146) := (bC BK152.out 2).trans rfl; have hcz32_3 : w28.cell? ⟨gb152, 3, none⟩ = some (.slice Ao26 t147.length co26) := (bC BK152.out 3).trans rfl; have hfz32_0 := bF BK152.out 0; have hfz32_1 := bF BK152.out 1; have hfz32_2 := bF BK152.out 2; have hfz32_3 := bF BK152.out 3))
            go_ret
            exact ⟨by first | rfl | (simp [errW_none, errW_some] <;> rfl) | (simp [*, errW_none, errW_some] <;> rfl), bA⟩
           ·rw [if_neg c22] at H
            have c22b0 : (t160 == 0) = false := beq_eq_false_iff_ne.mpr c22
            have c22b1 : (t160 != 0) = true := bne_iff_ne.mpr c22
            obtain rfl := Option.some.inj H
            go_wp2_with (first | ((with_reducible refine gate_callee (f := 18) rfl ?_); refine goesL_ (some 42) rfl rfl Tryd.func18 (by kernel_rfl) rfl #[.string t140, .string t142] rfl (by (try simp only [List.map_toArray, List.map_cons, List.map_nil]); first | done | rfl | (simp only [List.length_drop, List.length_take]; rfl) | (rw [wrap_sum2 (by assumption)]; rfl)) ?_; (with_reducible refine (head_Choose.calls kj2 t140 t142 t144 t145 t146 t147 t150 t151 _ A13.out).mono ?_); rintro e w33 ⟨v148, rfl, ho0, hb⟩; refine ⟨_, rfl, ?_⟩; have n0_ := Ax.mk (Kd.R_lower ho0 (bS bA)); have n1_ := Ax.mk (bP bA hb); clear HB; have HO149 := n0_; have HB := n1_; clear n0_ n1_; (try clear hb); (try clear hb2); (try clear hk); (try clear hi); (try clear ho0)) | ((with_reducible refine gate_dst (N := 5) rfl ?_); (try (refine gate_guard (by rfl) ?_; dsimp only)); refine box_event ?hg (N := 5) ?hd (cs := #[.int .u64 0, .int .i64 0, .int .i64 0, .slice none 0 0]) (t := 25) ?hr ?_; (case hd => rfl); (case hg => rfl); (case hr => first | (go_simp; done) | (go_simp; rfl)); intro gb152 hg w34 hbox hb; have n0_ := Ax.mk (Kd.R_below (by exact Kd.R_to HO149.out) hb); have n1_ := Ax.mk (bP bA hb); have n2_ := Ax.mk (hbox); have n3_ := Ax.mk ((ge_new hg : w.heap.size ≤ gb152)); have n4_ := n3_; clear HO149; clear HB; have HO149 := n0_; have HB := n1_; have BK152 := n2_; have GW152 := n3_; have GE152 := n4_; clear n0_ n1_ n2_ n3_ n4_; clear hb hbox hg; have hcz35_0 : w34.cell? ⟨gb152, 0, none⟩ = some (.int .u64 0) := (bC BK152.out 0).trans rfl; have hcz35_1 : w34.cell? ⟨gb152, 1, none⟩ = some (.int .i64 0) := (bC BK152.out 1).trans rfl; have hcz35_2 : w34.cell? ⟨gb152, 2, none⟩ = some (.int .i64 0) := (bC BK152.out 2).trans rfl; have hcz35_3 : w34.cell? ⟨gb152, 3, none⟩ = some (.slice none 0 0) := (bC BK152.out 3).trans rfl; have hfz35_0 := bF BK152.out 0; have hfz35_1 := bF BK152.out 1; have hfz35_2 := bF BK152.out 2; have hfz35_3 := bF BK152.out 3; obtain ⟨Ao36, co36, eo36⟩ := Kd.R_slice HO149.out; subst eo36) | ((with_reducible refine gate_callee (f := 18) rfl ?_); refine goesL_ (some 51) rfl rfl Tryd.func18 (by kernel_rfl) rfl #[.string t140, .string ((⟨#[113]⟩ : ByteArray) ++ (t142.extract 1 t142.size))] rfl (by (try simp only [List.map_toArray, List.map_cons, List.map_nil]); first | done | rfl | (simp only [List.length_drop, List.length_take]; rfl) | (rw [wrap_sum2 (by assumption)]; rfl)) ?_; (with_reducible refine (head_Choose.calls kj2 t140 ((⟨#[113]⟩ : ByteArray) ++ (t142.extract 1 t142.size)) t153 t154 t155 t156 t159 t160 _ A16.out).mono ?_); rintro e w37 ⟨v157, rfl, ho0, hb⟩; refine ⟨_, rfl, ?_⟩; have n0_ := Ax.mk (Kd.R_elder' (by apply Kd.R_to; exact (Kd.R_mono (Kd.R_far (p := ⟨gb152, 3, none⟩) (Kd.R_far (p := ⟨gb152, 2, none⟩) (Kd.R_far (p := ⟨gb152, 1, none⟩) (Kd.R_far (p := ⟨gb152, 0, none⟩) (Kd.R_types HO149.out BK152.out (by decide)) (fun _ hk => hk.2) (.int .u64 t144)) (fun _ hk => hk.2) (.int .i64 t145)) (fun _ hk => hk.2) (.int .i64 t146)) (fun _ hk => hk.2) (.slice Ao36 t147.length co36)) (fun _ h_ => h_.1))) (Kd.R_base ho0) hb); have n1_ := Ax.mk (Kd.R_lower (Kd.R_new' ho0 (Kd.R_lt (by apply Kd.R_to; exact (Kd.R_mono (Kd.R_far (p := ⟨gb152, 3, none⟩) (Kd.R_far (p := ⟨gb152, 2, none⟩) (Kd.R_far (p := ⟨gb152, 1, none⟩) (Kd.R_far (p := ⟨gb152, 0, none⟩) (Kd.R_types HO149.out BK152.out (by decide)) (fun _ hk => hk.2) (.int .u64 t144)) (fun _ hk => hk.2) (.int .i64 t145)) (fun _ hk => hk.2) (.int .i64 t146)) (fun _ hk => hk.2) (.slice Ao36 t147.length co36)) (fun _ h_ => h_.1))))) (bS bA)); have n2_ := Ax.mk (bB (g := gb152) (o := .cells #[.int .u64 t144, .int .i64 t145, .int .i64 t146, .slice Ao36 t147.length co36] 25 (0, 0)) (by refine bT ?_; refine bU (cs := #[.int .u64 t144, .int .i64 t145, .int .i64 t146, .slice none 0 0]) ?_ 3 _ rfl; refine bT ?_; refine bU (cs := #[.int .u64 t144, .int .i64 t145, .int .i64 0, .slice none 0 0]) ?_ 2 _ rfl; refine bT ?_; refine bU (cs := #[.int .u64 t144, .int .i64 0, .int .i64 0, .slice none 0 0]) ?_ 1 _ rfl; refine bT ?_; refine bU (cs := #[.int .u64 0, .int .i64 0, .int .i64 0, .slice none 0 0]) ?_ 0 _ rfl; exact bT BK152.out) hb); have n3_ := Ax.mk (bP bA hb); clear HO149; clear BK152; clear HB; have HO149 := n0_; have HO158 := n1_; have BK152 := n2_; have HB := n3_; clear n0_ n1_ n2_ n3_; (try clear hb); (try clear hb2); (try clear hk); (try clear hi); (try clear ho0)) | ((with_reducible refine gate_dst (N := 8) rfl ?_); (try (refine gate_guard (by rfl) ?_; dsimp only)); refine box_event ?hg (N := 8) ?hd (cs := #[.int .u64 0, .int .i64 0, .int .i64 0, .slice none 0 0]) (t := 25) ?hr ?_; (case hd => rfl); (case hg => rfl); (case hr => first | (go_simp; done) | (go_simp; rfl)); intro gb161 hg w38 hbox hb; have n0_ := Ax.mk (Kd.R_below (by exact Kd.R_to HO149.out) hb); have n1_ := Ax.mk (Kd.R_below (by exact Kd.R_to HO158.out) hb); have n2_ := Ax.mk (bB (bT BK152.out) hb); have n3_ := Ax.mk (bP bA hb); have n4_ := Ax.mk (hbox); have n5_ := Ax.mk ((ge_new hg : w.heap.size ≤ gb161)); have n6_ := n5_; have n7_ := Ax.mk ((ne_lt hg BK152.out : gb152 ≠ gb161)); have n8_ := Ax.mk ((ne_gt hg BK152.out : gb161 ≠ gb152)); clear HO149; clear HO158; clear BK152; clear HB; have HO149 := n0_; have HO158 := n1_; have BK152 := n2_; have HB := n3_; have BK161 := n4_; have GW161 := n5_; have GE161 := n6_; have NB152_161 := n7_; have NB161_152 := n8_; clear n0_ n1_ n2_ n3_ n4_ n5_ n6_ n7_ n8_; clear hb hbox hg; have hnb39 := NB161_152.out; have hnc39 := NB152_161.out; have hcz40_0 : w38.cell? ⟨gb161, 0, none⟩ = some (.int .u64 0) := (bC BK161.out 0).trans rfl; have hcz40_1 : w38.cell? ⟨gb161, 1, none⟩ = some (.int .i64 0) := (bC BK161.out 1).trans rfl; have hcz40_2 : w38.cell? ⟨gb161, 2, none⟩ = some (.int .i64 0) := (bC BK161.out 2).trans rfl; have hcz40_3 : w38.cell? ⟨gb161, 3, none⟩ = some (.slice none 0 0) := (bC BK161.out 3).trans rfl; have hfz40_0 := bF BK161.out 0; have hfz40_1 := bF BK161.out 1; have hfz40_2 := bF BK161.out 2; have hfz40_3 := bF BK161.out 3; obtain ⟨Ao41, co41, eo41⟩ := Kd.R_slice HO158.out; subst eo41; have hcz42_0 : w38.cell? ⟨gb152, 0, none⟩ = some (.int .u64 t144) := (bC BK152.out 0).trans rfl; have hcz42_1 : w38.cell? ⟨gb152, 1, none⟩ = some (.int .i64 t145) := (bC BK152.out 1).trans rfl; have hcz42_2 : w38.cell? ⟨gb152, 2, none⟩ = some (.int .i64 t146) := (bC BK152.out 2).trans rfl; have hcz42_3 : w38.cell? ⟨gb152, 3, none⟩ = some (.slice Ao36 t147.length co36) := (bC BK152.out 3).trans rfl; have hfz42_0 := bF BK152.out 0; have hfz42_1 := bF BK152.out 1; have hfz42_2 := bF BK152.out 2; have hfz42_3 := bF BK152.out 3))
            go_ret
            exact ⟨by first | rfl | (simp [errW_none, errW_some] <;> rfl) | (simp [*, errW_none, errW_some] <;> rfl), bA⟩
          ·rw [if_neg c21] at H
           have c21b0 : (t159 == 0) = false := beq_eq_false_iff_ne.mpr c21
           have c21b1 : (t159 != 0) = true := bne_iff_ne.mpr c21
           obtain rfl := Option.some.inj H
           go_wp2_with (first | ((with_reducible refine gate_callee (f := 18) rfl ?_); refine goesL_ (some 42) rfl rfl Tryd.func18 (by kernel_rfl) rfl #[.string t140, .string t142] rfl (by (try simp only [List.map_toArray, List.map_cons, List.map_nil]); first | done | rfl | (simp only [List.length_drop, List.length_take]; rfl) | (rw [wrap_sum2 (by assumption)]; rfl)) ?_; (with_reducible refine (head_Choose.calls kj2 t140 t142 t144 t145 t146 t147 t150 t151 _ A13.out).mono ?_); rintro e w43 ⟨v148, rfl, ho0, hb⟩; refine ⟨_, rfl, ?_⟩; have n0_ := Ax.mk (Kd.R_lower ho0 (bS bA)); have n1_ := Ax.mk (bP bA hb); clear HB; have HO149 := n0_; have HB := n1_; clear n0_ n1_; (try clear hb); (try clear hb2); (try clear hk); (try clear hi); (try clear ho0)) | ((with_reducible refine gate_dst (N := 5) rfl ?_); (try (refine gate_guard (by rfl) ?_; dsimp only)); refine box_event ?hg (N := 5) ?hd (cs := #[.int .u64 0, .int .i64 0, .int .i64 0, .slice none 0 0]) (t := 25) ?hr ?_; (case hd => rfl); (case hg => rfl); (case hr => first | (go_simp; done) | (go_simp; rfl)); intro gb152 hg w44 hbox hb; have n0_ := Ax.mk (Kd.R_below (by exact Kd.R_to HO149.out) hb); have n1_ := Ax.mk (bP bA hb); have n2_ := Ax.mk (hbox); have n3_ := Ax.mk ((ge_new hg : w.heap.size ≤ gb152)); have n4_ := n3_; clear HO149; clear HB; have HO149 := n0_; have HB := n1_; have BK152 := n2_; have GW152 := n3_; have GE152 := n4_; clear n0_ n1_ n2_ n3_ n4_; clear hb hbox hg; have hcz45_0 : w44.cell? ⟨gb152, 0, none⟩ = some (.int .u64 0) := (bC BK152.out 0).trans rfl; have hcz45_1 : w44.cell? ⟨gb152, 1, none⟩ = some (.int .i64 0) := (bC BK152.out 1).trans rfl; have hcz45_2 : w44.cell? ⟨gb152, 2, none⟩ = some (.int .i64 0) := (bC BK152.out 2).trans rfl; have hcz45_3 : w44.cell? ⟨gb152, 3, none⟩ = some (.slice none 0 0) := (bC BK152.out 3).trans rfl; have hfz45_0 := bF BK152.out 0; have hfz45_1 := bF BK152.out 1; have hfz45_2 := bF BK152.out 2; have hfz45_3 := bF BK152.out 3; obtain ⟨Ao46, co46, eo46⟩ := Kd.R_slice HO149.out; subst eo46) | ((with_reducible refine gate_callee (f := 18) rfl ?_); refine goesL_ (some 51) rfl rfl Tryd.func18 (by kernel_rfl) rfl #[.string t140, .string ((⟨#[113]⟩ : ByteArray) ++ (t142.extract 1 t142.size))] rfl (by (try simp only [List.map_toArray, List.map_cons, List.map_nil]); first | done | rfl | (simp only [List.length_drop, List.length_take]; rfl) | (rw [wrap_sum2 (by assumption)]; rfl)) ?_; (with_reducible refine (head_Choose.calls kj2 t140 ((⟨#[113]⟩ : ByteArray) ++ (t142.extract 1 t142.size)) t153 t154 t155 t156 t159 t160 _ A16.out).mono ?_); rintro e w47 ⟨v157, rfl, ho0, hb⟩; refine ⟨_, rfl, ?_⟩; have n0_ := Ax.mk (Kd.R_elder' (by apply Kd.R_to; exact (Kd.R_mono (Kd.R_far (p := ⟨gb152, 3, none⟩) (Kd.R_far (p := ⟨gb152, 2, none⟩) (Kd.R_far (p := ⟨gb152, 1, none⟩) (Kd.R_far (p := ⟨gb152, 0, none⟩) (Kd.R_types HO149.out BK152.out (by decide)) (fun _ hk => hk.2) (.int .u64 t144)) (fun _ hk => hk.2) (.int .i64 t145)) (fun _ hk => hk.2) (.int .i64 t146)) (fun _ hk => hk.2) (.slice Ao46 t147.length co46)) (fun _ h_ => h_.1))) (Kd.R_base ho0) hb); have n1_ := Ax.mk (Kd.R_lower (Kd.R_new' ho0 (Kd.R_lt (by apply Kd.R_to; exact (Kd.R_mono (Kd.R_far (p := ⟨gb152, 3, none⟩) (Kd.R_far (p := ⟨gb152, 2, none⟩) (Kd.R_far (p := ⟨gb152, 1, none⟩) (Kd.R_far (p := ⟨gb152, 0, none⟩) (Kd.R_types HO149.out BK152.out (by decide)) (fun _ hk => hk.2) (.int .u64 t144)) (fun _ hk => hk.2) (.int .i64 t145)) (fun _ hk => hk.2) (.int .i64 t146)) (fun _ hk => hk.2) (.slice Ao46 t147.length co46)) (fun _ h_ => h_.1))))) (bS bA)); have n2_ := Ax.mk (bB (g := gb152) (o := .cells #[.int .u64 t144, .int .i64 t145, .int .i64 t146, .slice Ao46 t147.length co46] 25 (0, 0)) (by refine bT ?_; refine bU (cs := #[.int .u64 t144, .int .i64 t145, .int .i64 t146, .slice none 0 0]) ?_ 3 _ rfl; refine bT ?_; refine bU (cs := #[.int .u64 t144, .int .i64 t145, .int .i64 0, .slice none 0 0]) ?_ 2 _ rfl; refine bT ?_; refine bU (cs := #[.int .u64 t144, .int .i64 0, .int .i64 0, .slice none 0 0]) ?_ 1 _ rfl; refine bT ?_; refine bU (cs := #[.int .u64 0, .int .i64 0, .int .i64 0, .slice none 0 0]) ?_ 0 _ rfl; exact bT BK152.out) hb); have n3_ := Ax.mk (bP bA hb); clear HO149; clear BK152; clear HB; have HO149 := n0_; have HO158 := n1_; have BK152 := n2_; have HB := n3_; clear n0_ n1_ n2_ n3_; (try clear hb); (try clear hb2); (try clear hk); (try clear hi); (try clear ho0)) | ((with_reducible refine gate_dst (N := 8) rfl ?_); (try (refine gate_guard (by rfl) ?_; dsimp only)); refine box_event ?hg (N := 8) ?hd (cs := #[.int .u64 0, .int .i64 0, .int .i64 0, .slice none 0 0]) (t := 25) ?hr ?_; (case hd => rfl); (case hg => rfl); (case hr => first | (go_simp; done) | (go_simp; rfl)); intro gb161 hg w48 hbox hb; have n0_ := Ax.mk (Kd.R_below (by exact Kd.R_to HO149.out) hb); have n1_ := Ax.mk (Kd.R_below (by exact Kd.R_to HO158.out) hb); have n2_ := Ax.mk (bB (bT BK152.out) hb); have n3_ := Ax.mk (bP bA hb); have n4_ := Ax.mk (hbox); have n5_ := Ax.mk ((ge_new hg : w.heap.size ≤ gb161)); have n6_ := n5_; have n7_ := Ax.mk ((ne_lt hg BK152.out : gb152 ≠ gb161)); have n8_ := Ax.mk ((ne_gt hg BK152.out : gb161 ≠ gb152)); clear HO149; clear HO158; clear BK152; clear HB; have HO149 := n0_; have HO158 := n1_; have BK152 := n2_; have HB := n3_; have BK161 := n4_; have GW161 := n5_; have GE161 := n6_; have NB152_161 := n7_; have NB161_152 := n8_; clear n0_ n1_ n2_ n3_ n4_ n5_ n6_ n7_ n8_; clear hb hbox hg; have hnb49 := NB161_152.out; have hnc49 := NB152_161.out; have hcz50_0 : w48.cell? ⟨gb161, 0, none⟩ = some (.int .u64 0) := (bC BK161.out 0).trans rfl; have hcz50_1 : w48.cell? ⟨gb161, 1, none⟩ = some (.int .i64 0) := (bC BK161.out 1).trans rfl; have hcz50_2 : w48.cell? ⟨gb161, 2, none⟩ = some (.int .i64 0) := (bC BK161.out 2).trans rfl; have hcz50_3 : w48.cell? ⟨gb161, 3, none⟩ = some (.slice none 0 0) := (bC BK161.out 3).trans rfl; have hfz50_0 := bF BK161.out 0; have hfz50_1 := bF BK161.out 1; have hfz50_2 := bF BK161.out 2; have hfz50_3 := bF BK161.out 3; obtain ⟨Ao51, co51, eo51⟩ := Kd.R_slice HO158.out; subst eo51; have hcz52_0 : w48.cell? ⟨gb152, 0, none⟩ = some (.int .u64 t144) := (bC BK152.out 0).trans rfl; have hcz52_1 : w48.cell? ⟨gb152, 1, none⟩ = some (.int .i64 t145) := (bC BK152.out 1).trans rfl; have hcz52_2 : w48.cell? ⟨gb152, 2, none⟩ = some (.int .i64 t146) := (bC BK152.out 2).trans rfl; have hcz52_3 : w48.cell? ⟨gb152, 3, none⟩ = some (.slice Ao46 t147.length co46) := (bC BK152.out 3).trans rfl; have hfz52_0 := bF BK152.out 0; have hfz52_1 := bF BK152.out 1; have hfz52_2 := bF BK152.out 2; have hfz52_3 := bF BK152.out 3))
           go_ret
           exact ⟨by first | rfl | (simp [errW_none, errW_some] <;> rfl) | (simp [*, errW_none, errW_some] <;> rfl), bA⟩
         ·rw [if_neg c20] at H
          have c20b0 : (t153 == 7) = false := beq_eq_false_iff_ne.mpr c20
          have c20b1 : (t153 != 7) = true := bne_iff_ne.mpr c20
          obtain rfl := Option.some.inj H
          go_wp2_with (first | ((with_reducible refine gate_callee (f := 18) rfl ?_); refine goesL_ (some 42) rfl rfl Tryd.func18 (by kernel_rfl) rfl #[.string t140, .string t142] rfl (by (try simp only [List.map_toArray, List.map_cons, List.map_nil]); first | done | rfl | (simp only [List.length_drop, List.length_take]; rfl) | (rw [wrap_sum2 (by assumption)]; rfl)) ?_; (with_reducible refine (head_Choose.calls kj2 t140 t142 t144 t145 t146 t147 t150 t151 _ A13.out).mono ?_); rintro e w53 ⟨v148, rfl, ho0, hb⟩; refine ⟨_, rfl, ?_⟩; have n0_ := Ax.mk (Kd.R_lower ho0 (bS bA)); have n1_ := Ax.mk (bP bA hb); clear HB; have HO149 := n0_; have HB := n1_; clear n0_ n1_; (try clear hb); (try clear hb2); (try clear hk); (try clear hi); (try clear ho0)) | ((with_reducible refine gate_dst (N := 5) rfl ?_); (try (refine gate_guard (by rfl) ?_; dsimp only)); refine box_event ?hg (N := 5) ?hd (cs := #[.int .u64 0, .int .i64 0, .int .i64 0, .slice none 0 0]) (t := 25) ?hr ?_; (case hd => rfl); (case hg => rfl); (case hr => first | (go_simp; done) | (go_simp; rfl)); intro gb152 hg w54 hbox hb; have n0_ := Ax.mk (Kd.R_below (by exact Kd.R_to HO149.out) hb); have n1_ := Ax.mk (bP bA hb); have n2_ := Ax.mk (hbox); have n3_ := Ax.mk ((ge_new hg : w.heap.size ≤ gb152)); have n4_ := n3_; clear HO149; clear HB; have HO149 := n0_; have HB := n1_; have BK152 := n2_; have GW152 := n3_; have GE152 := n4_; clear n0_ n1_ n2_ n3_ n4_; clear hb hbox hg; have hcz55_0 : w54.cell? ⟨gb152, 0, none⟩ = some (.int .u64 0) := (bC BK152.out 0).trans rfl; have hcz55_1 : w54.cell? ⟨gb152, 1, none⟩ = some (.int .i64 0) := (bC BK152.out 1).trans rfl; have hcz55_2 : w54.cell? ⟨gb152, 2, none⟩ = some (.int .i64 0) := (bC BK152.out 2).trans rfl; have hcz55_3 : w54.cell? ⟨gb152, 3, none⟩ = some (.slice none 0 0) := (bC BK152.out 3).trans rfl; have hfz55_0 := bF BK152.out 0; have hfz55_1 := bF BK152.out 1; have hfz55_2 := bF BK152.out 2; have hfz55_3 := bF BK152.out 3; obtain ⟨Ao56, co56, eo56⟩ := Kd.R_slice HO149.out; subst eo56) | ((with_reducible refine gate_callee (f := 18) rfl ?_); refine goesL_ (some 51) rfl rfl Tryd.func18 (by kernel_rfl) rfl #[.string t140, .string ((⟨#[113]⟩ : ByteArray) ++ (t142.extract 1 t142.size))] rfl (by (try simp only [List.map_toArray, List.map_cons, List.map_nil]); first | done | rfl | (simp only [List.length_drop, List.length_take]; rfl) | (rw [wrap_sum2 (by assumption)]; rfl)) ?_; (with_reducible refine (head_Choose.calls kj2 t140 ((⟨#[113]⟩ : ByteArray) ++ (t142.extract 1 t142.size)) t153 t154 t155 t156 t159 t160 _ A16.out).mono ?_); rintro e w57 ⟨v157, rfl, ho0, hb⟩; refine ⟨_, rfl, ?_⟩; have n0_ := Ax.mk (Kd.R_elder' (by apply Kd.R_to; exact (Kd.R_mono (Kd.R_far (p := ⟨gb152, 3, none⟩) (Kd.R_far (p := ⟨gb152, 2, none⟩) (Kd.R_far (p := ⟨gb152, 1, none⟩) (Kd.R_far (p := ⟨gb152, 0, none⟩) (Kd.R_types HO149.out BK152.out (by decide)) (fun _ hk => hk.2) (.int .u64 t144)) (fun _ hk => hk.2) (.int .i64 t145)) (fun _ hk => hk.2) (.int .i64 t146)) (fun _ hk => hk.2) (.slice Ao56 t147.length co56)) (fun _ h_ => h_.1))) (Kd.R_base ho0) hb); have n1_ := Ax.mk (Kd.R_lower (Kd.R_new' ho0 (Kd.R_lt (by apply Kd.R_to; exact (Kd.R_mono (Kd.R_far (p := ⟨gb152, 3, none⟩) (Kd.R_far (p := ⟨gb152, 2, none⟩) (Kd.R_far (p := ⟨gb152, 1, none⟩) (Kd.R_far (p := ⟨gb152, 0, none⟩) (Kd.R_types HO149.out BK152.out (by decide)) (fun _ hk => hk.2) (.int .u64 t144)) (fun _ hk => hk.2) (.int .i64 t145)) (fun _ hk => hk.2) (.int .i64 t146)) (fun _ hk => hk.2) (.slice Ao56 t147.length co56)) (fun _ h_ => h_.1))))) (bS bA)); have n2_ := Ax.mk (bB (g := gb152) (o := .cells #[.int .u64 t144, .int .i64 t145, .int .i64 t146, .slice Ao56 t147.length co56] 25 (0, 0)) (by refine bT ?_; refine bU (cs := #[.int .u64 t144, .int .i64 t145, .int .i64 t146, .slice none 0 0]) ?_ 3 _ rfl; refine bT ?_; refine bU (cs := #[.int .u64 t144, .int .i64 t145, .int .i64 0, .slice none 0 0]) ?_ 2 _ rfl; refine bT ?_; refine bU (cs := #[.int .u64 t144, .int .i64 0, .int .i64 0, .slice none 0 0]) ?_ 1 _ rfl; refine bT ?_; refine bU (cs := #[.int .u64 0, .int .i64 0, .int .i64 0, .slice none 0 0]) ?_ 0 _ rfl; exact bT BK152.out) hb); have n3_ := Ax.mk (bP bA hb); clear HO149; clear BK152; clear HB; have HO149 := n0_; have HO158 := n1_; have BK152 := n2_; have HB := n3_; clear n0_ n1_ n2_ n3_; (try clear hb); (try clear hb2); (try clear hk); (try clear hi); (try clear ho0)) | ((with_reducible refine gate_dst (N := 8) rfl ?_); (try (refine gate_guard (by rfl) ?_; dsimp only)); refine box_event ?hg (N := 8) ?hd (cs := #[.int .u64 0, .int .i64 0, .int .i64 0, .slice none 0 0]) (t := 25) ?hr ?_; (case hd => rfl); (case hg => rfl); (case hr => first | (go_simp; done) | (go_simp; rfl)); intro gb161 hg w58 hbox hb; have n0_ := Ax.mk (Kd.R_below (by exact Kd.R_to HO149.out) hb); have n1_ := Ax.mk (Kd.R_below (by exact Kd.R_to HO158.out) hb); have n2_ := Ax.mk (bB (bT BK152.out) hb); have n3_ := Ax.mk (bP bA hb); have n4_ := Ax.mk (hbox); have n5_ := Ax.mk ((ge_new hg : w.heap.size ≤ gb161)); have n6_ := n5_; have n7_ := Ax.mk ((ne_lt hg BK152.out : gb152 ≠ gb161)); have n8_ := Ax.mk ((ne_gt hg BK152.out : gb161 ≠ gb152)); clear HO149; clear HO158; clear BK152; clear HB; have HO149 := n0_; have HO158 := n1_; have BK152 := n2_; have HB := n3_; have BK161 := n4_; have GW161 := n5_; have GE161 := n6_; have NB152_161 := n7_; have NB161_152 := n8_; clear n0_ n1_ n2_ n3_ n4_ n5_ n6_ n7_ n8_; clear hb hbox hg; have hnb59 := NB161_152.out; have hnc59 := NB152_161.out; have hcz60_0 : w58.cell? ⟨gb161, 0, none⟩ = some (.int .u64 0) := (bC BK161.out 0).trans rfl; have hcz60_1 : w58.cell? ⟨gb161, 1, none⟩ = some (.int .i64 0) := (bC BK161.out 1).trans rfl; have hcz60_2 : w58.cell? ⟨gb161, 2, none⟩ = some (.int .i64 0) := (bC BK161.out 2).trans rfl; have hcz60_3 : w58.cell? ⟨gb161, 3, none⟩ = some (.slice none 0 0) := (bC BK161.out 3).trans rfl; have hfz60_0 := bF BK161.out 0; have hfz60_1 := bF BK161.out 1; have hfz60_2 := bF BK161.out 2; have hfz60_3 := bF BK161.out 3; obtain ⟨Ao61, co61, eo61⟩ := Kd.R_slice HO158.out; subst eo61; have hcz62_0 : w58.cell? ⟨gb152, 0, none⟩ = some (.int .u64 t144) := (bC BK152.out 0).trans rfl; have hcz62_1 : w58.cell? ⟨gb152, 1, none⟩ = some (.int .i64 t145) := (bC BK152.out 1).trans rfl; have hcz62_2 : w58.cell? ⟨gb152, 2, none⟩ = some (.int .i64 t146) := (bC BK152.out 2).trans rfl; have hcz62_3 : w58.cell? ⟨gb152, 3, none⟩ = some (.slice Ao56 t147.length co56) := (bC BK152.out 3).trans rfl; have hfz62_0 := bF BK152.out 0; have hfz62_1 := bF BK152.out 1; have hfz62_2 := bF BK152.out 2; have hfz62_3 := bF BK152.out 3))
          go_ret
          exact ⟨by first | rfl | (simp [errW_none, errW_some] <;> rfl) | (simp [*, errW_none, errW_some] <;> rfl), bA⟩
        ·rw [if_neg c19] at H
         have c19b0 : (t151 == 0) = false := beq_eq_false_iff_ne.mpr c19
         have c19b1 : (t151 != 0) = true := bne_iff_ne.mpr c19
         obtain rfl := Option.some.inj H
         go_wp2_with (first | ((with_reducible refine gate_callee (f := 18) rfl ?_); refine goesL_ (some 42) rfl rfl Tryd.func18 (by kernel_rfl) rfl #[.string t140, .string t142] rfl (by (try simp only [List.map_toArray, List.map_cons, List.map_nil]); first | done | rfl | (simp only [List.length_drop, List.length_take]; rfl) | (rw [wrap_sum2 (by assumption)]; rfl)) ?_; (with_reducible refine (head_Choose.calls kj2 t140 t142 t144 t145 t146 t147 t150 t151 _ A13.out).mono ?_); rintro e w63 ⟨v148, rfl, ho0, hb⟩; refine ⟨_, rfl, ?_⟩; have n0_ := Ax.mk (Kd.R_lower ho0 (bS bA)); have n1_ := Ax.mk (bP bA hb); clear HB; have HO149 := n0_; have HB := n1_; clear n0_ n1_; (try clear hb); (try clear hb2); (try clear hk); (try clear hi); (try clear ho0)) | ((with_reducible refine gate_dst (N := 5) rfl ?_); (try (refine gate_guard (by rfl) ?_; dsimp only)); refine box_event ?hg (N := 5) ?hd (cs := #[.int .u64 0, .int .i64 0, .int .i64 0, .slice none 0 0]) (t := 25) ?hr ?_; (case hd => rfl); (case hg => rfl); (case hr => first | (go_simp; done) | (go_simp; rfl)); intro gb152 hg w64 hbox hb; have n0_ := Ax.mk (Kd.R_below (by exact Kd.R_to HO149.out) hb); have n1_ := Ax.mk (bP bA hb); have n2_ := Ax.mk (hbox); have n3_ := Ax.mk ((ge_new hg : w.heap.size ≤ gb152)); have n4_ := n3_; clear HO149; clear HB; have HO149 := n0_; have HB := n1_; have BK152 := n2_; have GW152 := n3_; have GE152 := n4_; clear n0_ n1_ n2_ n3_ n4_; clear hb hbox hg; have hcz65_0 : w64.cell? ⟨gb152, 0, none⟩ = some (.int .u64 0) := (bC BK152.out 0).trans rfl; have hcz65_1 : w64.cell? ⟨gb152, 1, none⟩ = some (.int .i64 0) := (bC BK152.out 1).trans rfl; have hcz65_2 : w64.cell? ⟨gb152, 2, none⟩ = some (.int .i64 0) := (bC BK152.out 2).trans rfl; have hcz65_3 : w64.cell? ⟨gb152, 3, none⟩ = some (.slice none 0 0) := (bC BK152.out 3).trans rfl; have hfz65_0 := bF BK152.out 0; have hfz65_1 := bF BK152.out 1; have hfz65_2 := bF BK152.out 2; have hfz65_3 := bF BK152.out 3; obtain ⟨Ao66, co66, eo66⟩ := Kd.R_slice HO149.out; subst eo66) | ((with_reducible refine gate_callee (f := 18) rfl ?_); refine goesL_ (some 51) rfl rfl Tryd.func18 (by kernel_rfl) rfl #[.string t140, .string ((⟨#[113]⟩ : ByteArray) ++ (t142.extract 1 t142.size))] rfl (by (try simp only [List.map_toArray, List.map_cons, List.map_nil]); first | done | rfl | (simp only [List.length_drop, List.length_take]; rfl) | (rw [wrap_sum2 (by assumption)]; rfl)) ?_; (with_reducible refine (head_Choose.calls kj2 t140 ((⟨#[113]⟩ : ByteArray) ++ (t142.extract 1 t142.size)) t153 t154 t155 t156 t159 t160 _ A16.out).mono ?_); rintro e w67 ⟨v157, rfl, ho0, hb⟩; refine ⟨_, rfl, ?_⟩; have n0_ := Ax.mk (Kd.R_elder' (by apply Kd.R_to; exact (Kd.R_mono (Kd.R_far (p := ⟨gb152, 3, none⟩) (Kd.R_far (p := ⟨gb152, 2, none⟩) (Kd.R_far (p := ⟨gb152, 1, none⟩) (Kd.R_far (p := ⟨gb152, 0, none⟩) (Kd.R_types HO149.out BK152.out (by decide)) (fun _ hk => hk.2) (.int .u64 t144)) (fun _ hk => hk.2) (.int .i64 t145)) (fun _ hk => hk.2) (.int .i64 t146)) (fun _ hk => hk.2) (.slice Ao66 t147.length co66)) (fun _ h_ => h_.1))) (Kd.R_base ho0) hb); have n1_ := Ax.mk (Kd.R_lower (Kd.R_new' ho0 (Kd.R_lt (by apply Kd.R_to; exact (Kd.R_mono (Kd.R_far (p := ⟨gb152, 3, none⟩) (Kd.R_far (p := ⟨gb152, 2, none⟩) (Kd.R_far (p := ⟨gb152, 1, none⟩) (Kd.R_far (p := ⟨gb152, 0, none⟩) (Kd.R_types HO149.out BK152.out (by decide)) (fun _ hk => hk.2) (.int .u64 t144)) (fun _ hk => hk.2) (.int .i64 t145)) (fun _ hk => hk.2) (.int .i64 t146)) (fun _ hk => hk.2) (.slice Ao66 t147.length co66)) (fun _ h_ => h_.1))))) (bS bA)); have n2_ := Ax.mk (bB (g := gb152) (o := .cells #[.int .u64 t144, .int .i64 t145, .int .i64 t146, .slice Ao66 t147.length co66] 25 (0, 0)) (by refine bT ?_; refine bU (cs := #[.int .u64 t144, .int .i64 t145, .int .i64 t146, .slice none 0 0]) ?_ 3 _ rfl; refine bT ?_; refine bU (cs := #[.int .u64 t144, .int .i64 t145, .int .i64 0, .slice none 0 0]) ?_ 2 _ rfl; refine bT ?_; refine bU (cs := #[.int .u64 t144, .int .i64 0, .int .i64 0, .slice none 0 0]) ?_ 1 _ rfl; refine bT ?_; refine bU (cs := #[.int .u64 0, .int .i64 0, .int .i64 0, .slice none 0 0]) ?_ 0 _ rfl; exact bT BK152.out) hb); have n3_ := Ax.mk (bP bA hb); clear HO149; clear BK152; clear HB; have HO149 := n0_; have HO158 := n1_; have BK152 := n2_; have HB := n3_; clear n0_ n1_ n2_ n3_; (try clear hb); (try clear hb2); (try clear hk); (try clear hi); (try clear ho0)) | ((with_reducible refine gate_dst (N := 8) rfl ?_); (try (refine gate_guard (by rfl) ?_; dsimp only)); refine box_event ?hg (N := 8) ?hd (cs := #[.int .u64 0, .int .i64 0, .int .i64 0, .slice none 0 0]) (t := 25) ?hr ?_; (case hd => rfl); (case hg => rfl); (case hr => first | (go_simp; done) | (go_simp; rfl)); intro gb161 hg w68 hbox hb; have n0_ := Ax.mk (Kd.R_below (by exact Kd.R_to HO149.out) hb); have n1_ := Ax.mk (Kd.R_below (by exact Kd.R_to HO158.out) hb); have n2_ := Ax.mk (bB (bT BK152.out) hb); have n3_ := Ax.mk (bP bA hb); have n4_ := Ax.mk (hbox); have n5_ := Ax.mk ((ge_new hg : w.heap.size ≤ gb161)); have n6_ := n5_; have n7_ := Ax.mk ((ne_lt hg BK152.out : gb152 ≠ gb161)); have n8_ := Ax.mk ((ne_gt hg BK152.out : gb161 ≠ gb152)); clear HO149; clear HO158; clear BK152; clear HB; have HO149 := n0_; have HO158 := n1_; have BK152 := n2_; have HB := n3_; have BK161 := n4_; have GW161 := n5_; have GE161 := n6_; have NB152_161 := n7_; have NB161_152 := n8_; clear n0_ n1_ n2_ n3_ n4_ n5_ n6_ n7_ n8_; clear hb hbox hg; have hnb69 := NB161_152.out; have hnc69 := NB152_161.out; have hcz70_0 : w68.cell? ⟨gb161, 0, none⟩ = some (.int .u64 0) := (bC BK161.out 0).trans rfl; have hcz70_1 : w68.cell? ⟨gb161, 1, none⟩ = some (.int .i64 0) := (bC BK161.out 1).trans rfl; have hcz70_2 : w68.cell? ⟨gb161, 2, none⟩ = some (.int .i64 0) := (bC BK161.out 2).trans rfl; have hcz70_3 : w68.cell? ⟨gb161, 3, none⟩ = some (.slice none 0 0) := (bC BK161.out 3).trans rfl; have hfz70_0 := bF BK161.out 0; have hfz70_1 := bF BK161.out 1; have hfz70_2 := bF BK161.out 2; have hfz70_3 := bF BK161.out 3; obtain ⟨Ao71, co71, eo71⟩ := Kd.R_slice HO158.out; subst eo71; have hcz72_0 : w68.cell? ⟨gb152, 0, none⟩ = some (.int .u64 t144) := (bC BK152.out 0).trans rfl; have hcz72_1 : w68.cell? ⟨gb152, 1, none⟩ = some (.int .i64 t145) := (bC BK152.out 1).trans rfl; have hcz72_2 : w68.cell? ⟨gb152, 2, none⟩ = some (.int .i64 t146) := (bC BK152.out 2).trans rfl; have hcz72_3 : w68.cell? ⟨gb152, 3, none⟩ = some (.slice Ao66 t147.length co66) := (bC BK152.out 3).trans rfl; have hfz72_0 := bF BK152.out 0; have hfz72_1 := bF BK152.out 1; have hfz72_2 := bF BK152.out 2; have hfz72_3 := bF BK152.out 3))
         go_ret
         exact ⟨by first | rfl | (simp [errW_none, errW_some] <;> rfl) | (simp [*, errW_none, errW_some] <;> rfl), bA⟩
       ·rw [if_neg c18] at H
        have c18b0 : (t150 == 1) = false := beq_eq_false_iff_ne.mpr c18
        have c18b1 : (t150 != 1) = true := bne_iff_ne.mpr c18
        obtain rfl := Option.some.inj H
        go_wp2_with (first | ((with_reducible refine gate_callee (f := 18) rfl ?_); refine goesL_ (some 42) rfl rfl Tryd.func18 (by kernel_rfl) rfl #[.string t140, .string t142] rfl (by (try simp only [List.map_toArray, List.map_cons, List.map_nil]); first | done | rfl | (simp only [List.length_drop, List.length_take]; rfl) | (rw [wrap_sum2 (by assumption)]; rfl)) ?_; (with_reducible refine (head_Choose.calls kj2 t140 t142 t144 t145 t146 t147 t150 t151 _ A13.out).mono ?_); rintro e w73 ⟨v148, rfl, ho0, hb⟩; refine ⟨_, rfl, ?_⟩; have n0_ := Ax.mk (Kd.R_lower ho0 (bS bA)); have n1_ := Ax.mk (bP bA hb); clear HB; have HO149 := n0_; have HB := n1_; clear n0_ n1_; (try clear hb); (try clear hb2); (try clear hk); (try clear hi); (try clear ho0)) | ((with_reducible refine gate_dst (N := 5) rfl ?_); (try (refine gate_guard (by rfl) ?_; dsimp only)); refine box_event ?hg (N := 5) ?hd (cs := #[.int .u64 0, .int .i64 0, .int .i64 0, .slice none 0 0]) (t := 25) ?hr ?_; (case hd => rfl); (case hg => rfl); (case hr => first | (go_simp; done) | (go_simp; rfl)); intro gb152 hg w74 hbox hb; have n0_ := Ax.mk (Kd.R_below (by exact Kd.R_to HO149.out) hb); have n1_ := Ax.mk (bP bA hb); have n2_ := Ax.mk (hbox); have n3_ := Ax.mk ((ge_new hg : w.heap.size ≤ gb152)); have n4_ := n3_; clear HO149; clear HB; have HO149 := n0_; have HB := n1_; have BK152 := n2_; have GW152 := n3_; have GE152 := n4_; clear n0_ n1_ n2_ n3_ n4_; clear hb hbox hg; have hcz75_0 : w74.cell? ⟨gb152, 0, none⟩ = some (.int .u64 0) := (bC BK152.out 0).trans rfl; have hcz75_1 : w74.cell? ⟨gb152, 1, none⟩ = some (.int .i64 0) := (bC BK152.out 1).trans rfl; have hcz75_2 : w74.cell? ⟨gb152, 2, none⟩ = some (.int .i64 0) := (bC BK152.out 2).trans rfl; have hcz75_3 : w74.cell? ⟨gb152, 3, none⟩ = some (.slice none 0 0) := (bC BK152.out 3).trans rfl; have hfz75_0 := bF BK152.out 0; have hfz75_1 := bF BK152.out 1; have hfz75_2 := bF BK152.out 2; have hfz75_3 := bF BK152.out 3; obtain ⟨Ao76, co76, eo76⟩ := Kd.R_slice HO149.out; subst eo76) | ((with_reducible refine gate_callee (f := 18) rfl ?_); refine goesL_ (some 51) rfl rfl Tryd.func18 (by kernel_rfl) rfl #[.string t140, .string ((⟨#[113]⟩ : ByteArray) ++ (t142.extract 1 t142.size))] rfl (by (try simp only [List.map_toArray, List.map_cons, List.map_nil]); first | done | rfl | (simp only [List.length_drop, List.length_take]; rfl) | (rw [wrap_sum2 (by assumption)]; rfl)) ?_; (with_reducible refine (head_Choose.calls kj2 t140 ((⟨#[113]⟩ : ByteArray) ++ (t142.extract 1 t142.size)) t153 t154 t155 t156 t159 t160 _ A16.out).mono ?_); rintro e w77 ⟨v157, rfl, ho0, hb⟩; refine ⟨_, rfl, ?_⟩; have n0_ := Ax.mk (Kd.R_elder' (by apply Kd.R_to; exact (Kd.R_mono (Kd.R_far (p := ⟨gb152, 3, none⟩) (Kd.R_far (p := ⟨gb152, 2, none⟩) (Kd.R_far (p := ⟨gb152, 1, none⟩) (Kd.R_far (p := ⟨gb152, 0, none⟩) (Kd.R_types HO149.out BK152.out (by decide)) (fun _ hk => hk.2) (.int .u64 t144)) (fun _ hk => hk.2) (.int .i64 t145)) (fun _ hk => hk.2) (.int .i64 t146)) (fun _ hk => hk.2) (.slice Ao76 t147.length co76)) (fun _ h_ => h_.1))) (Kd.R_base ho0) hb); have n1_ := Ax.mk (Kd.R_lower (Kd.R_new' ho0 (Kd.R_lt (by apply Kd.R_to; exact (Kd.R_mono (Kd.R_far (p := ⟨gb152, 3, none⟩) (Kd.R_far (p := ⟨gb152, 2, none⟩) (Kd.R_far (p := ⟨gb152, 1, none⟩) (Kd.R_far (p := ⟨gb152, 0, none⟩) (Kd.R_types HO149.out BK152.out (by decide)) (fun _ hk => hk.2) (.int .u64 t144)) (fun _ hk => hk.2) (.int .i64 t145)) (fun _ hk => hk.2) (.int .i64 t146)) (fun _ hk => hk.2) (.slice Ao76 t147.length co76)) (fun _ h_ => h_.1))))) (bS bA)); have n2_ := Ax.mk (bB (g := gb152) (o := .cells #[.int .u64 t144, .int .i64 t145, .int .i64 t146, .slice Ao76 t147.length co76] 25 (0, 0)) (by refine bT ?_; refine bU (cs := #[.int .u64 t144, .int .i64 t145, .int .i64 t146, .slice none 0 0]) ?_ 3 _ rfl; refine bT ?_; refine bU (cs := #[.int .u64 t144, .int .i64 t145, .int .i64 0, .slice none 0 0]) ?_ 2 _ rfl; refine bT ?_; refine bU (cs := #[.int .u64 t144, .int .i64 0, .int .i64 0, .slice none 0 0]) ?_ 1 _ rfl; refine bT ?_; refine bU (cs := #[.int .u64 0, .int .i64 0, .int .i64 0, .slice none 0 0]) ?_ 0 _ rfl; exact bT BK152.out) hb); have n3_ := Ax.mk (bP bA hb); clear HO149; clear BK152; clear HB; have HO149 := n0_; have HO158 := n1_; have BK152 := n2_; have HB := n3_; clear n0_ n1_ n2_ n3_; (try clear hb); (try clear hb2); (try clear hk); (try clear hi); (try clear ho0)) | ((with_reducible refine gate_dst (N := 8) rfl ?_); (try (refine gate_guard (by rfl) ?_; dsimp only)); refine box_event ?hg (N := 8) ?hd (cs := #[.int .u64 0, .int .i64 0, .int .i64 0, .slice none 0 0]) (t := 25) ?hr ?_; (case hd => rfl); (case hg => rfl); (case hr => first | (go_simp; done) | (go_simp; rfl)); intro gb161 hg w78 hbox hb; have n0_ := Ax.mk (Kd.R_below (by exact Kd.R_to HO149.out) hb); have n1_ := Ax.mk (Kd.R_below (by exact Kd.R_to HO158.out) hb); have n2_ := Ax.mk (bB (bT BK152.out) hb); have n3_ := Ax.mk (bP bA hb); have n4_ := Ax.mk (hbox); have n5_ := Ax.mk ((ge_new hg : w.heap.size ≤ gb161)); have n6_ := n5_; have n7_ := Ax.mk ((ne_lt hg BK152.out : gb152 ≠ gb161)); have n8_ := Ax.mk ((ne_gt hg BK152.out : gb161 ≠ gb152)); clear HO149; clear HO158; clear BK152; clear HB; have HO149 := n0_; have HO158 := n1_; have BK152 := n2_; have HB := n3_; have BK161 := n4_; have GW161 := n5_; have GE161 := n6_; have NB152_161 := n7_; have NB161_152 := n8_; clear n0_ n1_ n2_ n3_ n4_ n5_ n6_ n7_ n8_; clear hb hbox hg; have hnb79 := NB161_152.out; have hnc79 := NB152_161.out; have hcz80_0 : w78.cell? ⟨gb161, 0, none⟩ = some (.int .u64 0) := (bC BK161.out 0).trans rfl; have hcz80_1 : w78.cell? ⟨gb161, 1, none⟩ = some (.int .i64 0) := (bC BK161.out 1).trans rfl; have hcz80_2 : w78.cell? ⟨gb161, 2, none⟩ = some (.int .i64 0) := (bC BK161.out 2).trans rfl; have hcz80_3 : w78.cell? ⟨gb161, 3, none⟩ = some (.slice none 0 0) := (bC BK161.out 3).trans rfl; have hfz80_0 := bF BK161.out 0; have hfz80_1 := bF BK161.out 1; have hfz80_2 := bF BK161.out 2; have hfz80_3 := bF BK161.out 3; obtain ⟨Ao81, co81, eo81⟩ := Kd.R_slice HO158.out; subst eo81; have hcz82_0 : w78.cell? ⟨gb152, 0, none⟩ = some (.int .u64 t144) := (bC BK152.out 0).trans rfl; have hcz82_1 : w78.cell? ⟨gb152, 1, none⟩ = some (.int .i64 t145) := (bC BK152.out 1).trans rfl; have hcz82_2 : w78.cell? ⟨gb152, 2, none⟩ = some (.int .i64 t146) := (bC BK152.out 2).trans rfl; have hcz82_3 : w78.cell? ⟨gb152, 3, none⟩ = some (.slice Ao76 t147.length co76) := (bC BK152.out 3).trans rfl; have hfz82_0 := bF BK152.out 0; have hfz82_1 := bF BK152.out 1; have hfz82_2 := bF BK152.out 2; have hfz82_3 := bF BK152.out 3))
        go_ret
        exact ⟨by first | rfl | (simp [errW_none, errW_some] <;> rfl) | (simp [*, errW_none, errW_some] <;> rfl), bA⟩
      ·rw [if_neg c17] at H
       have c17b0 : (t144 == 8) = false := beq_eq_false_iff_ne.mpr c17
       have c17b1 : (t144 != 8) = true := bne_iff_ne.mpr c17
       obtain rfl := Option.some.inj H
       go_wp2_with (first | ((with_reducible refine gate_callee (f := 18) rfl ?_); refine goesL_ (some 42) rfl rfl Tryd.func18 (by kernel_rfl) rfl #[.string t140, .string t142] rfl (by (try simp only [List.map_toArray, List.map_cons, List.map_nil]); first | done | rfl | (simp only [List.length_drop, List.length_take]; rfl) | (rw [wrap_sum2 (by assumption)]; rfl)) ?_; (with_reducible refine (head_Choose.calls kj2 t140 t142 t144 t145 t146 t147 t150 t151 _ A13.out).mono ?_); rintro e w83 ⟨v148, rfl, ho0, hb⟩; refine ⟨_, rfl, ?_⟩; have n0_ := Ax.mk (Kd.R_lower ho0 (bS bA)); have n1_ := Ax.mk (bP bA hb); clear HB; have HO149 := n0_; have HB := n1_; clear n0_ n1_; (try clear hb); (try clear hb2); (try clear hk); (try clear hi); (try clear ho0)) | ((with_reducible refine gate_dst (N := 5) rfl ?_); (try (refine gate_guard (by rfl) ?_; dsimp only)); refine box_event ?hg (N := 5) ?hd (cs := #[.int .u64 0, .int .i64 0, .int .i64 0, .slice none 0 0]) (t := 25) ?hr ?_; (case hd => rfl); (case hg => rfl); (case hr => first | (go_simp; done) | (go_simp; rfl)); intro gb152 hg w84 hbox hb; have n0_ := Ax.mk (Kd.R_below (by exact Kd.R_to HO149.out) hb); have n1_ := Ax.mk (bP bA hb); have n2_ := Ax.mk (hbox); have n3_ := Ax.mk ((ge_new hg : w.heap.size ≤ gb152)); have n4_ := n3_; clear HO149; clear HB; have HO149 := n0_; have HB := n1_; have BK152 := n2_; have GW152 := n3_; have GE152 := n4_; clear n0_ n1_ n2_ n3_ n4_; clear hb hbox hg; have hcz85_0 : w84.cell? ⟨gb152, 0, none⟩ = some (.int .u64 0) := (bC BK152.out 0).trans rfl; have hcz85_1 : w84.cell? ⟨gb152, 1, none⟩ = some (.int .i64 0) := (bC BK152.out 1).trans rfl; have hcz85_2 : w84.cell? ⟨gb152, 2, none⟩ = some (.int .i64 0) := (bC BK152.out 2).trans rfl; have hcz85_3 : w84.cell? ⟨gb152, 3, none⟩ = some (.slice none 0 0) := (bC BK152.out 3).trans rfl; have hfz85_0 := bF BK152.out 0; have hfz85_1 := bF BK152.out 1; have hfz85_2 := bF BK152.out 2; have hfz85_3 := bF BK152.out 3; obtain ⟨Ao86, co86, eo86⟩ := Kd.R_slice HO149.out; subst eo86) | ((with_reducible refine gate_callee (f := 18) rfl ?_); refine goesL_ (some 51) rfl rfl Tryd.func18 (by kernel_rfl) rfl #[.string t140, .string ((⟨#[113]⟩ : ByteArray) ++ (t142.extract 1 t142.size))] rfl (by (try simp only [List.map_toArray, List.map_cons, List.map_nil]); first | done | rfl | (simp only [List.length_drop, List.length_take]; rfl) | (rw [wrap_sum2 (by assumption)]; rfl)) ?_; (with_reducible refine (head_Choose.calls kj2 t140 ((⟨#[113]⟩ : ByteArray) ++ (t142.extract 1 t142.size)) t153 t154 t155 t156 t159 t160 _ A16.out).mono ?_); rintro e w87 ⟨v157, rfl, ho0, hb⟩; refine ⟨_, rfl, ?_⟩; have n0_ := Ax.mk (Kd.R_elder' (by apply Kd.R_to; exact (Kd.R_mono (Kd.R_far (p := ⟨gb152, 3, none⟩) (Kd.R_far (p := ⟨gb152, 2, none⟩) (Kd.R_far (p := ⟨gb152, 1, none⟩) (Kd.R_far (p := ⟨gb152, 0, none⟩) (Kd.R_types HO149.out BK152.out (by decide)) (fun _ hk => hk.2) (.int .u64 t144)) (fun _ hk => hk.2) (.int .i64 t145)) (fun _ hk => hk.2) (.int .i64 t146)) (fun _ hk => hk.2) (.slice Ao86 t147.length co86)) (fun _ h_ => h_.1))) (Kd.R_base ho0) hb); have n1_ := Ax.mk (Kd.R_lower (Kd.R_new' ho0 (Kd.R_lt (by apply Kd.R_to; exact (Kd.R_mono (Kd.R_far (p := ⟨gb152, 3, none⟩) (Kd.R_far (p := ⟨gb152, 2, none⟩) (Kd.R_far (p := ⟨gb152, 1, none⟩) (Kd.R_far (p := ⟨gb152, 0, none⟩) (Kd.R_types HO149.out BK152.out (by decide)) (fun _ hk => hk.2) (.int .u64 t144)) (fun _ hk => hk.2) (.int .i64 t145)) (fun _ hk => hk.2) (.int .i64 t146)) (fun _ hk => hk.2) (.slice Ao86 t147.length co86)) (fun _ h_ => h_.1))))) (bS bA)); have n2_ := Ax.mk (bB (g := gb152) (o := .cells #[.int .u64 t144, .int .i64 t145, .int .i64 t146, .slice Ao86 t147.length co86] 25 (0, 0)) (by refine bT ?_; refine bU (cs := #[.int .u64 t144, .int .i64 t145, .int .i64 t146, .slice none 0 0]) ?_ 3 _ rfl; refine bT ?_; refine bU (cs := #[.int .u64 t144, .int .i64 t145, .int .i64 0, .slice none 0 0]) ?_ 2 _ rfl; refine bT ?_; refine bU (cs := #[.int .u64 t144, .int .i64 0, .int .i64 0, .slice none 0 0]) ?_ 1 _ rfl; refine bT ?_; refine bU (cs := #[.int .u64 0, .int .i64 0, .int .i64 0, .slice none 0 0]) ?_ 0 _ rfl; exact bT BK152.out) hb); have n3_ := Ax.mk (bP bA hb); clear HO149; clear BK152; clear HB; have HO149 := n0_; have HO158 := n1_; have BK152 := n2_; have HB := n3_; clear n0_ n1_ n2_ n3_; (try clear hb); (try clear hb2); (try clear hk); (try clear hi); (try clear ho0)) | ((with_reducible refine gate_dst (N := 8) rfl ?_); (try (refine gate_guard (by rfl) ?_; dsimp only)); refine box_event ?hg (N := 8) ?hd (cs := #[.int .u64 0, .int .i64 0, .int .i64 0, .slice none 0 0]) (t := 25) ?hr ?_; (case hd => rfl); (case hg => rfl); (case hr => first | (go_simp; done) | (go_simp; rfl)); intro gb161 hg w88 hbox hb; have n0_ := Ax.mk (Kd.R_below (by exact Kd.R_to HO149.out) hb); have n1_ := Ax.mk (Kd.R_below (by exact Kd.R_to HO158.out) hb); have n2_ := Ax.mk (bB (bT BK152.out) hb); have n3_ := Ax.mk (bP bA hb); have n4_ := Ax.mk (hbox); have n5_ := Ax.mk ((ge_new hg : w.heap.size ≤ gb161)); have n6_ := n5_; have n7_ := Ax.mk ((ne_lt hg BK152.out : gb152 ≠ gb161)); have n8_ := Ax.mk ((ne_gt hg BK152.out : gb161 ≠ gb152)); clear HO149; clear HO158; clear BK152; clear HB; have HO149 := n0_; have HO158 := n1_; have BK152 := n2_; have HB := n3_; have BK161 := n4_; have GW161 := n5_; have GE161 := n6_; have NB152_161 := n7_; have NB161_152 := n8_; clear n0_ n1_ n2_ n3_ n4_ n5_ n6_ n7_ n8_; clear hb hbox hg; have hnb89 := NB161_152.out; have hnc89 := NB152_161.out; have hcz90_0 : w88.cell? ⟨gb161, 0, none⟩ = some (.int .u64 0) := (bC BK161.out 0).trans rfl; have hcz90_1 : w88.cell? ⟨gb161, 1, none⟩ = some (.int .i64 0) := (bC BK161.out 1).trans rfl; have hcz90_2 : w88.cell? ⟨gb161, 2, none⟩ = some (.int .i64 0) := (bC BK161.out 2).trans rfl; have hcz90_3 : w88.cell? ⟨gb161, 3, none⟩ = some (.slice none 0 0) := (bC BK161.out 3).trans rfl; have hfz90_0 := bF BK161.out 0; have hfz90_1 := bF BK161.out 1; have hfz90_2 := bF BK161.out 2; have hfz90_3 := bF BK161.out 3; obtain ⟨Ao91, co91, eo91⟩ := Kd.R_slice HO158.out; subst eo91; have hcz92_0 : w88.cell? ⟨gb152, 0, none⟩ = some (.int .u64 t144) := (bC BK152.out 0).trans rfl; have hcz92_1 : w88.cell? ⟨gb152, 1, none⟩ = some (.int .i64 t145) := (bC BK152.out 1).trans rfl; have hcz92_2 : w88.cell? ⟨gb152, 2, none⟩ = some (.int .i64 t146) := (bC BK152.out 2).trans rfl; have hcz92_3 : w88.cell? ⟨gb152, 3, none⟩ = some (.slice Ao86 t147.length co86) := (bC BK152.out 3).trans rfl; have hfz92_0 := bF BK152.out 0; have hfz92_1 := bF BK152.out 1; have hfz92_2 := bF BK152.out 2; have hfz92_3 := bF BK152.out 3))
       go_ret
       exact ⟨by first | rfl | (simp [errW_none, errW_some] <;> rfl) | (simp [*, errW_none, errW_some] <;> rfl), bA⟩
     ·rw [if_neg c15] at H
      exact absurd H (by simp)
    ·rw [if_neg c14] at H
     exact absurd H (by simp)
end Go.Proofs.YtcgejogmiglalaaDoor.Fn
end
section
namespace Go.Proofs.YtcgejogmiglalaaDoor.Fn
open Go.RowKit Go.Proofs.YtcgejogmiglalaaDoorW.PrintWords Go.Proofs.YtcgejogmiglalaaDoorW.PrintLast Go.Proofs.YtcgejogmiglalaaDoorW.PrintMore Go.Proofs.YtcgejogmiglalaaDoor.Lf
attribute [local go_sem] max2_int min2_int max_two min_two max_three min_three max_four min_four   -- for this text's walks alone
set_option linter.unusedVariables false
set_option linter.unusedSimpArgs false
def l6_as.f (a0_0 a0_1 a0_2 : Int) (l0_3 : List S53) : Option (Int × Int × Int × List S53) := some (a0_0, a0_1, a0_2, l0_3)
set_option maxHeartbeats 4000000 in
set_option maxRecDepth 100000 in
theorem l6_as.calls (a0_0 a0_1 a0_2 : Int) (P0_ : Nat → Prop) (A0_3 : Option Addr) (c0_3 : Nat) (l0_3 : List S53) (r1 r2 r3 : Int) (r4 : List S53) (w : World) (hs0_3 : Kd.V k53 53 w w.heap.size (fun k_ => P0_ k_) (.slice A0_3 l0_3.length c0_3) l0_3) (h : l6_as.f a0_0 a0_1 a0_2 l0_3 = some (r1, r2, r3, r4)) :
  Calls Tryd.prog 12 #[.agg #[.int .u64 a0_0, .int .i64 a0_1, .int .i64 a0_2, .slice A0_3 l0_3.length c0_3]] w fun e w' => ∃ v1_ : Value, e = .returned (.agg #[.int .u64 r1, .int .i64 r2, .int .i64 r3, v1_]) ∧ Kd.V k53 53 w' w.heap.size (fun k_ => (P0_ k_ ∨ w.heap.size ≤ k_)) v1_ r4 ∧ Below w.heap.size w w' := by
 cases h
 have HV := Ax.mk hs0_3
 clear hs0_3
 go_enter Tryd.func12, Tryd.ntmps12
 go_wp2
 have hb := below_alloc (below_alloc (Below.refl w.heap.size w) (.cells #[.int .u64 a0_0, .int .i64 a0_1, .int .i64 a0_2, .slice A0_3 l0_3.length c0_3] 25)) (.cells #[.int .u64 a0_0, .int .i64 a0_1, .int .i64 a0_2, .slice A0_3 l0_3.length c0_3] 31)
 exact bodyPost_ret (v := .agg #[.int .u64 a0_0, .int .i64 a0_1, .int .i64 a0_2, .slice A0_3 l0_3.length c0_3]) (by simp [results, Tryd.results12, go_sem]) rfl ⟨_, rfl, Kd.V_mono (Kd.V_below HV.out hb) (fun _ hk => .inl hk), hb⟩
end Go.Proofs.YtcgejogmiglalaaDoor.Fn
end
