-- Packed by pack.py, a program of this session, out of texts of this claim.
import Derived.Test.YtcgpaopbcclbiaaDoorProg
import Derived.Below
import Derived.Deep.Draws
import Derived.Deep.AppendLies
import Derived.Maps.AppendAt
import Derived.OwnWalk
import Derived.Laws.BytesArg
import Derived.Laws.MakeOwn
import Derived.Laws.OwnMore
import Derived.Deep.OwnRows
import Derived.Tactics
import Derived.Lib.ConvBytes
import Derived.Laws.Slices
import Derived.WalkKit
import Derived.KernelRfl
import Derived.RowKit3
import Derived.Deep.LoopGhost
import Derived.Deep.QuietTactic
import Derived.BigQuiet
import Derived.WideLaws
import Derived.Deep.DeepCutAuto
import Derived.Deep.CutBlock
import Derived.Deep.RegionHeld3
import Derived.Laws.Rows
import Derived.Lib.AppendStr
import Derived.ArgAppend
import Derived.Laws.IdiomCopy
import Derived.OrdersHeld
import Derived.Laws.BitsLemmas
import Derived.RowKit
import Derived.Test.YtcgpaopbcclbiaaDoorLfQuote
import Derived.Test.YtcgpaopbcclbiaaDoorLfRight
import Derived.Test.YtcgpaopbcclbiaaDoorLfUnq
import Derived.Test.YtcgpaopbcclbiaaDoorClLabelBack0
section
-- Written by printx.py, a program of this session over the kit's print: each Go function as a plain Lean function, and that the Go code computes it.






















































namespace Go.Proofs.YtcgpaopbcclbiaaDoor.Fn
open Go.RowKit Go.Proofs.YtcgpaopbcclbiaaDoorW.PrintWords Go.Proofs.YtcgpaopbcclbiaaDoorW.PrintLast Go.Proofs.YtcgpaopbcclbiaaDoorW.PrintMore Go.Proofs.YtcgpaopbcclbiaaDoor.Lf
attribute [local go_sem] max2_int min2_int max_two min_two max_three min_three max_four min_four   -- for this text's walks alone
set_option linter.unusedVariables false
set_option linter.unusedSimpArgs false



def errW : Option Int → Value
 | none => .nilIface
 | some c => .iface 0 (.int .i64 c)
theorem errW_none : errW none = .nilIface := rfl
theorem errW_some (c : Int) : errW (some c) = .iface 0 (.int .i64 c) := rfl

theorem info5 : (Tryd.prog.info? 5).map (fun i => (i.zero, i.size, i.bytes)) = some (some (.int .u8 0), 1, 1) := by kernel_rfl
-- the values' own types

end Go.Proofs.YtcgpaopbcclbiaaDoor.Fn
end
section
-- Written by printx.py, a program of this session over the kit's print: each Go function as a plain Lean function, and that the Go code computes it.

namespace Go.Proofs.YtcgpaopbcclbiaaDoor.Fn
open Go.RowKit Go.Proofs.YtcgpaopbcclbiaaDoorW.PrintWords Go.Proofs.YtcgpaopbcclbiaaDoorW.PrintLast Go.Proofs.YtcgpaopbcclbiaaDoorW.PrintMore Go.Proofs.YtcgpaopbcclbiaaDoor.Lf
attribute [local go_sem] max2_int min2_int max_two min_two max_three min_three max_four min_four   -- for this text's walks alone
set_option linter.unusedVariables false
set_option linter.unusedSimpArgs false

/-! ### rootcellarref1_more: function 34 -/
def rootcellarref1_more.f (a0 : ByteArray) (a1 : Int) : Option (Bool) := if a1 < (a0.size : Int) then (if 0 ≤ a1 then (if (bt a0 a1) ≥ 128 then (some (decide ((bt a0 a1) ≤ 191))) else (some false)) else (none)) else (some false)
set_option maxHeartbeats 8000000 in
set_option maxRecDepth 100000 in
theorem rootcellarref1_more.calls (a0 : ByteArray) (a1 : Int) (r : Bool) (w : World) (h : rootcellarref1_more.f a0 a1 = some r) :
  Calls Tryd.prog 34 #[.string a0, .int .i64 a1] w fun e w' => e = .returned (.bool r) ∧ Drawn0 w w' := by
 have H : (if a1 < (a0.size : Int) then (if 0 ≤ a1 then (if (bt a0 a1) ≥ 128 then (some (decide ((bt a0 a1) ≤ 191))) else (some false)) else (none)) else (some false)) = some r := h
 clear h
 by_cases c3 : a1 < (a0.size : Int)
 ·rw [if_pos c3] at H
  have c3b0 : decide (a1 < (a0.size : Int)) = true := decide_eq_true c3
  clear c3
  by_cases c4 : 0 ≤ a1
  ·rw [if_pos c4] at H
   have c4b0 : decide (0 ≤ a1) = true := decide_eq_true c4
   clear c4
   by_cases c6 : (bt a0 a1) ≥ 128
   ·rw [if_pos c6] at H
    have c6b0 : decide (128 ≤ (bt a0 a1)) = true := decide_eq_true c6
    clear c6
    obtain rfl := Option.some.inj H
    have p5 : 0 ≤ (a1 : Int) := of_decide_eq_true (by first | (with_reducible assumption) | assumption)
    have q5 : a1 < (a0.size : Int) := of_decide_eq_true (by first | (with_reducible assumption) | assumption)
    have hx5 := bt_at a0 a1
    replace p5 := eq_true p5
    replace q5 := eq_true q5
    have p7 : 0 ≤ (a1 : Int) := of_decide_eq_true (by first | (with_reducible assumption) | assumption)
    have q7 : a1 < (a0.size : Int) := of_decide_eq_true (by first | (with_reducible assumption) | assumption)
    have hx7 := bt_at a0 a1
    replace p7 := eq_true p7
    replace q7 := eq_true q7
    go_enter Tryd.func34, Tryd.ntmps34
    go_wp2
    go_ret
    exact ⟨by first | rfl | (simp; done) | (simp [*]; done), by repeat (first | exact Drawn0.refl _ | apply Drawn0.step)⟩
   ·rw [if_neg c6] at H
    have c6b0 : decide (128 ≤ (bt a0 a1)) = false := decide_eq_false c6
    clear c6
    obtain rfl := Option.some.inj H
    have p5 : 0 ≤ (a1 : Int) := of_decide_eq_true (by first | (with_reducible assumption) | assumption)
    have q5 : a1 < (a0.size : Int) := of_decide_eq_true (by first | (with_reducible assumption) | assumption)
    have hx5 := bt_at a0 a1
    replace p5 := eq_true p5
    replace q5 := eq_true q5
    go_enter Tryd.func34, Tryd.ntmps34
    go_wp2
    go_ret
    exact ⟨by first | rfl | (simp; done) | (simp [*]; done), by repeat (first | exact Drawn0.refl _ | apply Drawn0.step)⟩
  ·rw [if_neg c4] at H
   exact absurd H (by simp)
 ·rw [if_neg c3] at H
  have c3b0 : decide (a1 < (a0.size : Int)) = false := decide_eq_false c3
  clear c3
  obtain rfl := Option.some.inj H
  go_enter Tryd.func34, Tryd.ntmps34
  go_wp2
  go_ret
  exact ⟨by first | rfl | (simp; done) | (simp [*]; done), by repeat (first | exact Drawn0.refl _ | apply Drawn0.step)⟩

end Go.Proofs.YtcgpaopbcclbiaaDoor.Fn
end
section
-- Written by printx.py, a program of this session over the kit's print: each Go function as a plain Lean function, and that the Go code computes it.


namespace Go.Proofs.YtcgpaopbcclbiaaDoor.Fn
open Go.RowKit Go.Proofs.YtcgpaopbcclbiaaDoorW.PrintWords Go.Proofs.YtcgpaopbcclbiaaDoorW.PrintLast Go.Proofs.YtcgpaopbcclbiaaDoorW.PrintMore Go.Proofs.YtcgpaopbcclbiaaDoor.Lf
attribute [local go_sem] max2_int min2_int max_two min_two max_three min_three max_four min_four   -- for this text's walks alone
set_option linter.unusedVariables false
set_option linter.unusedSimpArgs false

/-! ### rootcellarref1_Rune: function 21 -/
mutual
def rootcellarref1_Rune.j0 : Nat → ByteArray → Int → Bool → Option (Int × Int)
 | 0, _, _, _ => none
 | k + 1, x0, x4, x22 => if x22 = true then (if 1 < (x0.size : Int) then (some (wrap64 ((wrap64 ((wrap64 ((wrap64 (x4 - 192)) * 64)) + (wrap64 (bt x0 1)))) - 128), 2)) else (none)) else (if x4 ≥ 224 then (if x4 ≤ 239 then ((rootcellarref1_more.f x0 1).bind fun t108 => (if t108 = true then ((rootcellarref1_more.f x0 2).bind fun t109 => (rootcellarref1_Rune.j1 k x0 x4 t109)) else (rootcellarref1_Rune.j1 k x0 x4 false))) else (rootcellarref1_Rune.j1 k x0 x4 false)) else (rootcellarref1_Rune.j1 k x0 x4 false))
def rootcellarref1_Rune.j1 : Nat → ByteArray → Int → Bool → Option (Int × Int)
 | 0, _, _, _ => none
 | k + 1, x0, x4, x44 => if x44 = true then (if 1 < (x0.size : Int) then (if 2 < (x0.size : Int) then (if (wrap64 ((wrap64 ((wrap64 ((wrap64 ((wrap64 (x4 - 224)) * 4096)) + (wrap64 ((wrap64 ((wrap64 (bt x0 1)) - 128)) * 64)))) + (wrap64 (bt x0 2)))) - 128)) ≥ 2048 then (if (wrap64 ((wrap64 ((wrap64 ((wrap64 ((wrap64 (x4 - 224)) * 4096)) + (wrap64 ((wrap64 ((wrap64 (bt x0 1)) - 128)) * 64)))) + (wrap64 (bt x0 2)))) - 128)) ≥ 55296 then (if ((wrap64 ((wrap64 ((wrap64 ((wrap64 ((wrap64 (x4 - 224)) * 4096)) + (wrap64 ((wrap64 ((wrap64 (bt x0 1)) - 128)) * 64)))) + (wrap64 (bt x0 2)))) - 128)) ≤ 57343) then (rootcellarref1_Rune.j2 k x0 x4) else (some (wrap64 ((wrap64 ((wrap64 ((wrap64 ((wrap64 (x4 - 224)) * 4096)) + (wrap64 ((wrap64 ((wrap64 (bt x0 1)) - 128)) * 64)))) + (wrap64 (bt x0 2)))) - 128), 3))) else (some (wrap64 ((wrap64 ((wrap64 ((wrap64 ((wrap64 (x4 - 224)) * 4096)) + (wrap64 ((wrap64 ((wrap64 (bt x0 1)) - 128)) * 64)))) + (wrap64 (bt x0 2)))) - 128), 3))) else (rootcellarref1_Rune.j2 k x0 x4)) else (none)) else (none)) else (rootcellarref1_Rune.j2 k x0 x4)
def rootcellarref1_Rune.j2 : Nat → ByteArray → Int → Option (Int × Int)
 | 0, _, _ => none
 | k + 1, x0, x4 => if x4 ≥ 240 then (if x4 ≤ 244 then ((rootcellarref1_more.f x0 1).bind fun t110 => (if t110 = true then ((rootcellarref1_more.f x0 2).bind fun t111 => (if t111 = true then ((rootcellarref1_more.f x0 3).bind fun t112 => (rootcellarref1_Rune.j3 k x0 x4 t112)) else (rootcellarref1_Rune.j3 k x0 x4 false))) else (rootcellarref1_Rune.j3 k x0 x4 false))) else (rootcellarref1_Rune.j3 k x0 x4 false)) else (rootcellarref1_Rune.j3 k x0 x4 false)
def rootcellarref1_Rune.j3 : Nat → ByteArray → Int → Bool → Option (Int × Int)
 | 0, _, _, _ => none
 | k + 1, x0, x4, x88 => if x88 = true then (if 1 < (x0.size : Int) then (if 2 < (x0.size : Int) then (if 3 < (x0.size : Int) then (if (wrap64 ((wrap64 ((wrap64 ((wrap64 ((wrap64 ((wrap64 (x4 - 240)) * 262144)) + (wrap64 ((wrap64 ((wrap64 (bt x0 1)) - 128)) * 4096)))) + (wrap64 ((wrap64 ((wrap64 (bt x0 2)) - 128)) * 64)))) + (wrap64 (bt x0 3)))) - 128)) ≥ 65536 then (if (wrap64 ((wrap64 ((wrap64 ((wrap64 ((wrap64 ((wrap64 (x4 - 240)) * 262144)) + (wrap64 ((wrap64 ((wrap64 (bt x0 1)) - 128)) * 4096)))) + (wrap64 ((wrap64 ((wrap64 (bt x0 2)) - 128)) * 64)))) + (wrap64 (bt x0 3)))) - 128)) ≤ 1114111 then (some (wrap64 ((wrap64 ((wrap64 ((wrap64 ((wrap64 ((wrap64 (x4 - 240)) * 262144)) + (wrap64 ((wrap64 ((wrap64 (bt x0 1)) - 128)) * 4096)))) + (wrap64 ((wrap64 ((wrap64 (bt x0 2)) - 128)) * 64)))) + (wrap64 (bt x0 3)))) - 128), 4)) else (some ((-1), 1))) else (some ((-1), 1))) else (none)) else (none)) else (none)) else (some ((-1), 1))
end
def rootcellarref1_Rune.f (k : Nat) (a0 : ByteArray) : Option (Int × Int) := if 0 < (a0.size : Int) then (if (wrap64 (bt a0 0)) < 128 then (some (wrap64 (bt a0 0), 1)) else (if (wrap64 (bt a0 0)) ≥ 194 then (if (wrap64 (bt a0 0)) ≤ 223 then ((rootcellarref1_more.f a0 1).bind fun t107 => (rootcellarref1_Rune.j0 k a0 (wrap64 (bt a0 0)) t107)) else (rootcellarref1_Rune.j0 k a0 (wrap64 (bt a0 0)) false)) else (rootcellarref1_Rune.j0 k a0 (wrap64 (bt a0 0)) false))) else (none)
theorem rootcellarref1_Rune.mono_l : ∀ k, (∀ y0 y1 y2, LeO (rootcellarref1_Rune.j0 k y0 y1 y2) (rootcellarref1_Rune.j0 (k + 1) y0 y1 y2)) ∧ (∀ y0 y1 y2, LeO (rootcellarref1_Rune.j1 k y0 y1 y2) (rootcellarref1_Rune.j1 (k + 1) y0 y1 y2)) ∧ (∀ y0 y1, LeO (rootcellarref1_Rune.j2 k y0 y1) (rootcellarref1_Rune.j2 (k + 1) y0 y1)) ∧ (∀ y0 y1 y2, LeO (rootcellarref1_Rune.j3 k y0 y1 y2) (rootcellarref1_Rune.j3 (k + 1) y0 y1 y2))
 | 0 => ⟨fun _ _ _ r h => by simp [rootcellarref1_Rune.j0] at h, fun _ _ _ r h => by simp [rootcellarref1_Rune.j1] at h, fun _ _ r h => by simp [rootcellarref1_Rune.j2] at h, fun _ _ _ r h => by simp [rootcellarref1_Rune.j3] at h⟩
 | k + 1 => by
  obtain ⟨ih0, ih1, ih2, ih3⟩ := rootcellarref1_Rune.mono_l k
  refine ⟨?_, ?_, ?_, ?_⟩
  ·intro y0 y1 y2
   unfold rootcellarref1_Rune.j0
   repeat' first
   | (with_reducible exact ih0 _ _ _)
   | (with_reducible exact ih1 _ _ _)
   | (with_reducible exact ih2 _ _)
   | (with_reducible exact ih3 _ _ _)
   | (with_reducible exact LeO.refl _)
   | (with_reducible exact LeO.none _)
   | (with_reducible refine LeO.ite ?_ ?_)
   | (with_reducible refine LeO.bind ?_ (fun _ => ?_))
   | exact ih0 _ _ _
   | exact ih1 _ _ _
   | exact ih2 _ _
   | exact ih3 _ _ _
   | exact LeO.none _
   | refine LeO.ite ?_ ?_
   | refine LeO.bind ?_ (fun _ => ?_)
  ·intro y0 y1 y2
   unfold rootcellarref1_Rune.j1
   repeat' first
   | (with_reducible exact ih0 _ _ _)
   | (with_reducible exact ih1 _ _ _)
   | (with_reducible exact ih2 _ _)
   | (with_reducible exact ih3 _ _ _)
   | (with_reducible exact LeO.refl _)
   | (with_reducible exact LeO.none _)
   | (with_reducible refine LeO.ite ?_ ?_)
   | (with_reducible refine LeO.bind ?_ (fun _ => ?_))
   | exact ih0 _ _ _
   | exact ih1 _ _ _
   | exact ih2 _ _
   | exact ih3 _ _ _
   | exact LeO.none _
   | refine LeO.ite ?_ ?_
   | refine LeO.bind ?_ (fun _ => ?_)
  ·intro y0 y1
   unfold rootcellarref1_Rune.j2
   repeat' first
   | (with_reducible exact ih0 _ _ _)
   | (with_reducible exact ih1 _ _ _)
   | (with_reducible exact ih2 _ _)
   | (with_reducible exact ih3 _ _ _)
   | (with_reducible exact LeO.refl _)
   | (with_reducible exact LeO.none _)
   | (with_reducible refine LeO.ite ?_ ?_)
   | (with_reducible refine LeO.bind ?_ (fun _ => ?_))
   | exact ih0 _ _ _
   | exact ih1 _ _ _
   | exact ih2 _ _
   | exact ih3 _ _ _
   | exact LeO.none _
   | refine LeO.ite ?_ ?_
   | refine LeO.bind ?_ (fun _ => ?_)
  ·intro y0 y1 y2
   unfold rootcellarref1_Rune.j3
   repeat' first
   | (with_reducible exact ih0 _ _ _)
   | (with_reducible exact ih1 _ _ _)
   | (with_reducible exact ih2 _ _)
   | (with_reducible exact ih3 _ _ _)
   | (with_reducible exact LeO.refl _)
   | (with_reducible exact LeO.none _)
   | (with_reducible refine LeO.ite ?_ ?_)
   | (with_reducible refine LeO.bind ?_ (fun _ => ?_))
   | exact ih0 _ _ _
   | exact ih1 _ _ _
   | exact ih2 _ _
   | exact ih3 _ _ _
   | exact LeO.none _
   | refine LeO.ite ?_ ?_
   | refine LeO.bind ?_ (fun _ => ?_)
theorem rootcellarref1_Rune.mono : ∀ a0 k, LeO (rootcellarref1_Rune.f k a0) (rootcellarref1_Rune.f (k + 1) a0) := by
 intro a0 k
 obtain ⟨ih0, ih1, ih2, ih3⟩ := rootcellarref1_Rune.mono_l k
 unfold rootcellarref1_Rune.f
 repeat' first
   | (with_reducible exact ih0 _ _ _)
   | (with_reducible exact ih1 _ _ _)
   | (with_reducible exact ih2 _ _)
   | (with_reducible exact ih3 _ _ _)
   | (with_reducible exact LeO.refl _)
   | (with_reducible exact LeO.none _)
   | (with_reducible refine LeO.ite ?_ ?_)
   | (with_reducible refine LeO.bind ?_ (fun _ => ?_))
   | exact ih0 _ _ _
   | exact ih1 _ _ _
   | exact ih2 _ _
   | exact ih3 _ _ _
   | exact LeO.none _
   | refine LeO.ite ?_ ?_
   | refine LeO.bind ?_ (fun _ => ?_)
set_option maxHeartbeats 8000000 in
set_option maxRecDepth 100000 in
theorem rootcellarref1_Rune.calls (k : Nat) (a0 : ByteArray) (r1 : Int) (r2 : Int) (w : World) (h : rootcellarref1_Rune.f k a0 = some (r1, r2)) :
  Calls Tryd.prog 21 #[.string a0] w fun e w' => e = .returned (.tuple #[.int .i64 r1, .int .i64 r2]) ∧ Drawn0 w w' := by
 have H : (if 0 < (a0.size : Int) then (if (wrap64 (bt a0 0)) < 128 then (some (wrap64 (bt a0 0), 1)) else (if (wrap64 (bt a0 0)) ≥ 194 then (if (wrap64 (bt a0 0)) ≤ 223 then ((rootcellarref1_more.f a0 1).bind fun t107 => (rootcellarref1_Rune.j0 k a0 (wrap64 (bt a0 0)) t107)) else (rootcellarref1_Rune.j0 k a0 (wrap64 (bt a0 0)) false)) else (rootcellarref1_Rune.j0 k a0 (wrap64 (bt a0 0)) false))) else (none)) = some (r1, r2) := h
 clear h
 by_cases c2 : 0 < (a0.size : Int)
 ·rw [if_pos c2] at H
  have c2b0 : decide (0 < (a0.size : Int)) = true := decide_eq_true c2
  have c2b1 : decide (0 < a0.size) = true := decide_eq_true (by omega)
  clear c2
  by_cases c4 : (wrap64 (bt a0 0)) < 128
  ·rw [if_pos c4] at H
   have c4b0 : decide ((wrap64 (bt a0 0)) < 128) = true := decide_eq_true c4
   clear c4
   simp only [Option.some.injEq, Prod.mk.injEq] at H
   obtain ⟨rfl, rfl⟩ := H
   have p3 : 0 ≤ (0 : Int) := (by omega)
   have q3 : 0 < a0.size := (by have : (0 : Int) < (a0.size : Int) := of_decide_eq_true (by first | (with_reducible assumption) | assumption); omega)
   have hx3 : ∀ h : 0 < a0.size, ((a0[0]'h).toNat : Int) = bt a0 0 := bt_at a0 0
   clear p3
   have qi3 : (0 < (a0.size : Int)) = True := eq_true (of_decide_eq_true (by first | (with_reducible assumption) | assumption))
   replace q3 := eq_true q3
   go_enter Tryd.func21, Tryd.ntmps21
   go_wp2
   repeat (go_quiet (fail); try go_wp2)
   go_ret2
   exact ⟨by first | rfl | (simp; done) | (simp [*]; done), by repeat (first | exact Drawn0.refl _ | apply Drawn0.step)⟩
  ·rw [if_neg c4] at H
   have c4b0 : decide ((wrap64 (bt a0 0)) < 128) = false := decide_eq_false c4
   clear c4
   have HC5 := Aside0.mk H
   clear H
   have p3 : 0 ≤ (0 : Int) := (by omega)
   have q3 : 0 < a0.size := (by have : (0 : Int) < (a0.size : Int) := of_decide_eq_true (by first | (with_reducible assumption) | assumption); omega)
   have hx3 : ∀ h : 0 < a0.size, ((a0[0]'h).toNat : Int) = bt a0 0 := bt_at a0 0
   clear p3
   have qi3 : (0 < (a0.size : Int)) = True := eq_true (of_decide_eq_true (by first | (with_reducible assumption) | assumption))
   replace q3 := eq_true q3
   go_enter Tryd.func21, Tryd.ntmps21
   go_upto_region 4 with (fail)
   repeat (go_quiet (fail); go_upto_region 4 with (fail))
   go_cut [22] (fun v22 wc => ∃ (kq : Nat) (x22_4 : Bool), v22 = .bool x22_4 ∧ Aside0 (rootcellarref1_Rune.j0 kq a0 (wrap64 (bt a0 0)) x22_4 = some (r1, r2)) ∧ Aside0 (kq ≤ k) ∧ Drawn0 w wc)
   case first =>
    have H := HC5.out
    clear HC5
    by_cases c6 : (wrap64 (bt a0 0)) ≥ 194
    ·rw [if_pos c6] at H
     have c6b0 : decide (194 ≤ (wrap64 (bt a0 0))) = true := decide_eq_true c6
     clear c6
     (first | rw [c6b0] | (simp only [i64_w, i32_w]; rw [c6b0]) | skip)
     by_cases c7 : (wrap64 (bt a0 0)) ≤ 223
     ·rw [if_pos c7] at H
      have c7b0 : decide ((wrap64 (bt a0 0)) ≤ 223) = true := decide_eq_true c7
      clear c7
      replace H := Option.bind_eq_some_iff.mp H
      obtain ⟨t107, A80, H⟩ := H
      replace H : (rootcellarref1_Rune.j0 k a0 (wrap64 (bt a0 0)) t107) = some (r1, r2) := H
      have A8 := Aside0.mk A80
      clear A80
      have H' := Aside0.mk H
      clear H
      go_wp2_with (first | (go_at_call 34; (with_reducible refine (rootcellarref1_more.calls a0 1 t107 _ A8.out).mono ?_); rintro e w' ⟨rfl, ⟨nd, rfl⟩⟩; (try first | exact ⟨rfl, _, World.drewN_drewN _ _ _⟩ | exact ⟨rfl, _, Eq.trans (World.drewN_drewN _ _ _) (congrArg (World.drewN _) (Nat.add_assoc _ _ _))⟩)))
      repeat (go_quiet (first | (go_at_call 34; (with_reducible refine (rootcellarref1_more.calls a0 1 t107 _ A8.out).mono ?_); rintro e w' ⟨rfl, ⟨nd, rfl⟩⟩; (try first | exact ⟨rfl, _, World.drewN_drewN _ _ _⟩ | exact ⟨rfl, _, Eq.trans (World.drewN_drewN _ _ _) (congrArg (World.drewN _) (Nat.add_assoc _ _ _))⟩))); try go_wp2_with (first | (go_at_call 34; (with_reducible refine (rootcellarref1_more.calls a0 1 t107 _ A8.out).mono ?_); rintro e w' ⟨rfl, ⟨nd, rfl⟩⟩; (try first | exact ⟨rfl, _, World.drewN_drewN _ _ _⟩ | exact ⟨rfl, _, Eq.trans (World.drewN_drewN _ _ _) (congrArg (World.drewN _) (Nat.add_assoc _ _ _))⟩))))
      go_meet
      case rel => exact ⟨_, (t107), (by first | rfl | (simp; done) | (simp [*]; done)), H', ⟨by first | omega | exact Nat.le_refl _⟩, by repeat (first | exact Drawn0.refl _ | apply Drawn0.step)⟩
     ·rw [if_neg c7] at H
      have c7b0 : decide ((wrap64 (bt a0 0)) ≤ 223) = false := decide_eq_false c7
      clear c7
      have H' := Aside0.mk H
      clear H
      go_wp2
      repeat (go_quiet (fail); try go_wp2)
      go_meet
      case rel => exact ⟨_, (false), (by first | rfl | (simp; done) | (simp [*]; done)), H', ⟨by first | omega | exact Nat.le_refl _⟩, by repeat (first | exact Drawn0.refl _ | apply Drawn0.step)⟩
    ·rw [if_neg c6] at H
     have c6b0 : decide (194 ≤ (wrap64 (bt a0 0))) = false := decide_eq_false c6
     clear c6
     (first | rw [c6b0] | (simp only [i64_w, i32_w]; rw [c6b0]) | skip)
     have H' := Aside0.mk H
     clear H
     go_wp2
     repeat (go_quiet (fail); try go_wp2)
     go_meet
     case rel => exact ⟨_, (false), (by first | rfl | (simp; done) | (simp [*]; done)), H', ⟨by first | omega | exact Nat.le_refl _⟩, by repeat (first | exact Drawn0.refl _ | apply Drawn0.step)⟩
   case rest =>
    clear HC5
    try clear c2
    try clear c2b0
    try clear c2b1
    try clear p2
    try clear p3
    try clear q3
    try clear hx3
    try clear qi3
    try clear c4
    try clear c4b0
    try clear c6
    try clear c6b0
    try clear p6
    try clear c7
    try clear c7b0
    try clear p3
    try clear q3
    obtain ⟨kq, x22_4, rfl, HA, HJ4, ⟨mc4, rfl⟩⟩ := hcut
    cases kq with
    | zero => exact absurd HA.out (by simp [rootcellarref1_Rune.j0])
    | succ kj4 =>
     have H := HA.out
     clear HA
     simp only [rootcellarref1_Rune.j0] at H
     by_cases c9 : x22_4 = true
     ·subst c9
      have H1 : (if 1 < (a0.size : Int) then (some (wrap64 ((wrap64 ((wrap64 ((wrap64 ((wrap64 (bt a0 0)) - 192)) * 64)) + (wrap64 (bt a0 1)))) - 128), 2)) else (none)) = some (r1, r2) := by rw [if_pos rfl] at H; exact H
      clear H
      have H := H1
      clear H1
      by_cases c10 : 1 < (a0.size : Int)
      ·rw [if_pos c10] at H
       have c10b0 : decide (1 < (a0.size : Int)) = true := decide_eq_true c10
       have c10b1 : decide (1 < a0.size) = true := decide_eq_true (by omega)
       clear c10
       simp only [Option.some.injEq, Prod.mk.injEq] at H
       obtain ⟨rfl, rfl⟩ := H
       have p11 : 0 ≤ (1 : Int) := (by omega)
       have q11 : 1 < a0.size := (by have : (1 : Int) < (a0.size : Int) := of_decide_eq_true (by first | (with_reducible assumption) | assumption); omega)
       have hx11 : ∀ h : 1 < a0.size, ((a0[1]'h).toNat : Int) = bt a0 1 := bt_at a0 1
       clear p11
       have qi11 : (1 < (a0.size : Int)) = True := eq_true (of_decide_eq_true (by first | (with_reducible assumption) | assumption))
       replace q11 := eq_true q11
       go_wp2
       repeat (go_quiet (fail); try go_wp2)
       go_ret2
       exact ⟨by first | rfl | (simp; done) | (simp [*]; done), by repeat (first | exact Drawn0.refl _ | apply Drawn0.step)⟩
      ·rw [if_neg c10] at H
       exact absurd H (by simp)
     ·replace c9 := Bool.eq_false_iff.mpr c9
      subst c9
      have H1 : (if (wrap64 (bt a0 0)) ≥ 224 then (if (wrap64 (bt a0 0)) ≤ 239 then ((rootcellarref1_more.f a0 1).bind fun t108 => (if t108 = true then ((rootcellarref1_more.f a0 2).bind fun t109 => (rootcellarref1_Rune.j1 kj4 a0 (wrap64 (bt a0 0)) t109)) else (rootcellarref1_Rune.j1 kj4 a0 (wrap64 (bt a0 0)) false))) else (rootcellarref1_Rune.j1 kj4 a0 (wrap64 (bt a0 0)) false)) else (rootcellarref1_Rune.j1 kj4 a0 (wrap64 (bt a0 0)) false)) = some (r1, r2) := by rw [if_neg (show ¬ (false = true) by decide)] at H; exact H
      clear H
      have H := H1
      clear H1
      have HC12 := Aside0.mk H
      clear H
      go_upto_region 6 with (fail)
      repeat (go_quiet (fail); go_upto_region 6 with (fail))
      go_cut [44] (fun v44 wc => ∃ (kq : Nat) (x44_11 : Bool), v44 = .bool x44_11 ∧ Aside0 (rootcellarref1_Rune.j1 kq a0 (wrap64 (bt a0 0)) x44_11 = some (r1, r2)) ∧ Aside0 (kq ≤ kj4) ∧ Drawn0 w wc)
      case first =>
       have H := HC12.out
       clear HC12
       by_cases c13 : (wrap64 (bt a0 0)) ≥ 224
       ·rw [if_pos c13] at H
        have c13b0 : decide (224 ≤ (wrap64 (bt a0 0))) = true := decide_eq_true c13
        clear c13
        (first | rw [c13b0] | (simp only [i64_w, i32_w]; rw [c13b0]) | skip)
        by_cases c14 : (wrap64 (bt a0 0)) ≤ 239
        ·rw [if_pos c14] at H
         have c14b0 : decide ((wrap64 (bt a0 0)) ≤ 239) = true := decide_eq_true c14
         clear c14
         replace H := Option.bind_eq_some_iff.mp H
         obtain ⟨t108, A150, H⟩ := H
         replace H : (if t108 = true then ((rootcellarref1_more.f a0 2).bind fun t109 => (rootcellarref1_Rune.j1 kj4 a0 (wrap64 (bt a0 0)) t109)) else (rootcellarref1_Rune.j1 kj4 a0 (wrap64 (bt a0 0)) false)) = some (r1, r2) := H
         have A15 := Aside0.mk A150
         clear A150
         by_cases c16 : t108 = true
         ·subst c16
          have H1 : ((rootcellarref1_more.f a0 2).bind fun t109 => (rootcellarref1_Rune.j1 kj4 a0 (wrap64 (bt a0 0)) t109)) = some (r1, r2) := by rw [if_pos rfl] at H; exact H
          clear H
          have H := H1
          clear H1
          replace H := Option.bind_eq_some_iff.mp H
          obtain ⟨t109, A170, H⟩ := H
          replace H : (rootcellarref1_Rune.j1 kj4 a0 (wrap64 (bt a0 0)) t109) = some (r1, r2) := H
          have A17 := Aside0.mk A170
          clear A170
          have H' := Aside0.mk H
          clear H
          go_wp2_with (first | (go_at_call 34; (with_reducible refine (rootcellarref1_more.calls a0 1 true _ A15.out).mono ?_); rintro e w' ⟨rfl, ⟨nd, rfl⟩⟩; (try first | exact ⟨rfl, _, World.drewN_drewN _ _ _⟩ | exact ⟨rfl, _, Eq.trans (World.drewN_drewN _ _ _) (congrArg (World.drewN _) (Nat.add_assoc _ _ _))⟩)) | (go_at_call 34; (with_reducible refine (rootcellarref1_more.calls a0 2 t109 _ A17.out).mono ?_); rintro e w' ⟨rfl, ⟨nd, rfl⟩⟩; (try first | exact ⟨rfl, _, World.drewN_drewN _ _ _⟩ | exact ⟨rfl, _, Eq.trans (World.drewN_drewN _ _ _) (congrArg (World.drewN _) (Nat.add_assoc _ _ _))⟩)))
          repeat (go_quiet (first | (go_at_call 34; (with_reducible refine (rootcellarref1_more.calls a0 1 true _ A15.out).mono ?_); rintro e w' ⟨rfl, ⟨nd, rfl⟩⟩; (try first | exact ⟨rfl, _, World.drewN_drewN _ _ _⟩ | exact ⟨rfl, _, Eq.trans (World.drewN_drewN _ _ _) (congrArg (World.drewN _) (Nat.add_assoc _ _ _))⟩)) | (go_at_call 34; (with_reducible refine (rootcellarref1_more.calls a0 2 t109 _ A17.out).mono ?_); rintro e w' ⟨rfl, ⟨nd, rfl⟩⟩; (try first | exact ⟨rfl, _, World.drewN_drewN _ _ _⟩ | exact ⟨rfl, _, Eq.trans (World.drewN_drewN _ _ _) (congrArg (World.drewN _) (Nat.add_assoc _ _ _))⟩))); try go_wp2_with (first | (go_at_call 34; (with_reducible refine (rootcellarref1_more.calls a0 1 true _ A15.out).mono ?_); rintro e w' ⟨rfl, ⟨nd, rfl⟩⟩; (try first | exact ⟨rfl, _, World.drewN_drewN _ _ _⟩ | exact ⟨rfl, _, Eq.trans (World.drewN_drewN _ _ _) (congrArg (World.drewN _) (Nat.add_assoc _ _ _))⟩)) | (go_at_call 34; (with_reducible refine (rootcellarref1_more.calls a0 2 t109 _ A17.out).mono ?_); rintro e w' ⟨rfl, ⟨nd, rfl⟩⟩; (try first | exact ⟨rfl, _, World.drewN_drewN _ _ _⟩ | exact ⟨rfl, _, Eq.trans (World.drewN_drewN _ _ _) (congrArg (World.drewN _) (Nat.add_assoc _ _ _))⟩))))
          go_meet
          case rel => exact ⟨_, (t109), (by first | rfl | (simp; done) | (simp [*]; done)), H', ⟨by have := HJ4.out; first | omega | exact Nat.le_refl _⟩, by repeat (first | exact Drawn0.refl _ | apply Drawn0.step)⟩
         ·replace c16 := Bool.eq_false_iff.mpr c16
          subst c16
          have H1 : (rootcellarref1_Rune.j1 kj4 a0 (wrap64 (bt a0 0)) false) = some (r1, r2) := by rw [if_neg (show ¬ (false = true) by decide)] at H; exact H
          clear H
          have H := H1
          clear H1
          have H' := Aside0.mk H
          clear H
          go_wp2_with (first | (go_at_call 34; (with_reducible refine (rootcellarref1_more.calls a0 1 false _ A15.out).mono ?_); rintro e w' ⟨rfl, ⟨nd, rfl⟩⟩; (try first | exact ⟨rfl, _, World.drewN_drewN _ _ _⟩ | exact ⟨rfl, _, Eq.trans (World.drewN_drewN _ _ _) (congrArg (World.drewN _) (Nat.add_assoc _ _ _))⟩)))
          repeat (go_quiet (first | (go_at_call 34; (with_reducible refine (rootcellarref1_more.calls a0 1 false _ A15.out).mono ?_); rintro e w' ⟨rfl, ⟨nd, rfl⟩⟩; (try first | exact ⟨rfl, _, World.drewN_drewN _ _ _⟩ | exact ⟨rfl, _, Eq.trans (World.drewN_drewN _ _ _) (congrArg (World.drewN _) (Nat.add_assoc _ _ _))⟩))); try go_wp2_with (first | (go_at_call 34; (with_reducible refine (rootcellarref1_more.calls a0 1 false _ A15.out).mono ?_); rintro e w' ⟨rfl, ⟨nd, rfl⟩⟩; (try first | exact ⟨rfl, _, World.drewN_drewN _ _ _⟩ | exact ⟨rfl, _, Eq.trans (World.drewN_drewN _ _ _) (congrArg (World.drewN _) (Nat.add_assoc _ _ _))⟩))))
          go_meet
          case rel => exact ⟨_, (false), (by first | rfl | (simp; done) | (simp [*]; done)), H', ⟨by have := HJ4.out; first | omega | exact Nat.le_refl _⟩, by repeat (first | exact Drawn0.refl _ | apply Drawn0.step)⟩
        ·rw [if_neg c14] at H
         have c14b0 : decide ((wrap64 (bt a0 0)) ≤ 239) = false := decide_eq_false c14
         clear c14
         have H' := Aside0.mk H
         clear H
         go_wp2
         repeat (go_quiet (fail); try go_wp2)
         go_meet
         case rel => exact ⟨_, (false), (by first | rfl | (simp; done) | (simp [*]; done)), H', ⟨by have := HJ4.out; first | omega | exact Nat.le_refl _⟩, by repeat (first | exact Drawn0.refl _ | apply Drawn0.step)⟩
       ·rw [if_neg c13] at H
        have c13b0 : decide (224 ≤ (wrap64 (bt a0 0))) = false := decide_eq_false c13
        clear c13
        (first | rw [c13b0] | (simp only [i64_w, i32_w]; rw [c13b0]) | skip)
        have H' := Aside0.mk H
        clear H
        go_wp2
        repeat (go_quiet (fail); try go_wp2)
        go_meet
        case rel => exact ⟨_, (false), (by first | rfl | (simp; done) | (simp [*]; done)), H', ⟨by have := HJ4.out; first | omega | exact Nat.le_refl _⟩, by repeat (first | exact Drawn0.refl _ | apply Drawn0.step)⟩
      case rest =>
       clear HC12
       try clear c1
       try clear p1
       try clear q1
       try clear hx1
       try clear qi1
       try clear c2
       try clear c2b0
       try clear c2b1
       try clear p2
       try clear p3
       try clear q3
       try clear hx3
       try clear qi3
       try clear c4
       try clear c4b0
       try clear c6
       try clear c6b0
       try clear p6
       try clear c7
       try clear c7b0
       try clear c9
       try clear c10
       try clear c10b0
       try clear c10b1
       try clear p11
       try clear q11
       try clear hx11
       try clear qi11
       try clear c13
       try clear c13b0
       try clear c14
       try clear c14b0
       try clear c16
       try clear p11
       try clear p2
       try clear p3
       try clear p6
       try clear q11
       try clear q3
       obtain ⟨kq, x44_11, rfl, HA, HJ11, ⟨mc11, rfl⟩⟩ := hcut
       cases kq with
       | zero => exact absurd HA.out (by simp [rootcellarref1_Rune.j1])
       | succ kj11 =>
        have H := HA.out
        clear HA
        simp only [rootcellarref1_Rune.j1] at H
        have HC18 := Aside0.mk H
        clear H
        go_upto_if 44 with (fail)
        repeat (go_quiet (fail); go_upto_if 44 with (fail))
        go_cut [] (fun wc => ∃ (kq : Nat), Aside0 (rootcellarref1_Rune.j2 kq a0 (wrap64 (bt a0 0)) = some (r1, r2)) ∧ Aside0 (kq ≤ kj11) ∧ Drawn0 w wc)
        case first =>
         have H := HC18.out
         clear HC18
         by_cases c19 : x44_11 = true
         ·subst c19
          have H1 : (if 1 < (a0.size : Int) then (if 2 < (a0.size : Int) then (if (wrap64 ((wrap64 ((wrap64 ((wrap64 ((wrap64 ((wrap64 (bt a0 0)) - 224)) * 4096)) + (wrap64 ((wrap64 ((wrap64 (bt a0 1)) - 128)) * 64)))) + (wrap64 (bt a0 2)))) - 128)) ≥ 2048 then (if (wrap64 ((wrap64 ((wrap64 ((wrap64 ((wrap64 ((wrap64 (bt a0 0)) - 224)) * 4096)) + (wrap64 ((wrap64 ((wrap64 (bt a0 1)) - 128)) * 64)))) + (wrap64 (bt a0 2)))) - 128)) ≥ 55296 then (if ((wrap64 ((wrap64 ((wrap64 ((wrap64 ((wrap64 ((wrap64 (bt a0 0)) - 224)) * 4096)) + (wrap64 ((wrap64 ((wrap64 (bt a0 1)) - 128)) * 64)))) + (wrap64 (bt a0 2)))) - 128)) ≤ 57343) then (rootcellarref1_Rune.j2 kj11 a0 (wrap64 (bt a0 0))) else (some (wrap64 ((wrap64 ((wrap64 ((wrap64 ((wrap64 ((wrap64 (bt a0 0)) - 224)) * 4096)) + (wrap64 ((wrap64 ((wrap64 (bt a0 1)) - 128)) * 64)))) + (wrap64 (bt a0 2)))) - 128), 3))) else (some (wrap64 ((wrap64 ((wrap64 ((wrap64 ((wrap64 ((wrap64 (bt a0 0)) - 224)) * 4096)) + (wrap64 ((wrap64 ((wrap64 (bt a0 1)) - 128)) * 64)))) + (wrap64 (bt a0 2)))) - 128), 3))) else (rootcellarref1_Rune.j2 kj11 a0 (wrap64 (bt a0 0)))) else (none)) else (none)) = some (r1, r2) := by rw [if_pos rfl] at H; exact H
          clear H
          have H := H1
          clear H1
          by_cases c20 : 1 < (a0.size : Int)
          ·rw [if_pos c20] at H
           have c20b0 : decide (1 < (a0.size : Int)) = true := decide_eq_true c20
           have c20b1 : decide (1 < a0.size) = true := decide_eq_true (by omega)
           clear c20
           (first | rw [c20b0] | (simp only [i64_w, i32_w]; rw [c20b0]) | skip)
           by_cases c22 : 2 < (a0.size : Int)
           ·rw [if_pos c22] at H
            have c22b0 : decide (2 < (a0.size : Int)) = true := decide_eq_true c22
            have c22b1 : decide (2 < a0.size) = true := decide_eq_true (by omega)
            clear c22
            by_cases c24 : (wrap64 ((wrap64 ((wrap64 ((wrap64 ((wrap64 ((wrap64 (bt a0 0)) - 224)) * 4096)) + (wrap64 ((wrap64 ((wrap64 (bt a0 1)) - 128)) * 64)))) + (wrap64 (bt a0 2)))) - 128)) ≥ 2048
            ·rw [if_pos c24] at H
             have c24b0 : decide (2048 ≤ (wrap64 ((wrap64 ((wrap64 ((wrap64 ((wrap64 ((wrap64 (bt a0 0)) - 224)) * 4096)) + (wrap64 ((wrap64 ((wrap64 (bt a0 1)) - 128)) * 64)))) + (wrap64 (bt a0 2)))) - 128))) = true := decide_eq_true c24
             clear c24
             by_cases c25 : (wrap64 ((wrap64 ((wrap64 ((wrap64 ((wrap64 ((wrap64 (bt a0 0)) - 224)) * 4096)) + (wrap64 ((wrap64 ((wrap64 (bt a0 1)) - 128)) * 64)))) + (wrap64 (bt a0 2)))) - 128)) ≥ 55296
             ·rw [if_pos c25] at H
              have c25b0 : decide (55296 ≤ (wrap64 ((wrap64 ((wrap64 ((wrap64 ((wrap64 ((wrap64 (bt a0 0)) - 224)) * 4096)) + (wrap64 ((wrap64 ((wrap64 (bt a0 1)) - 128)) * 64)))) + (wrap64 (bt a0 2)))) - 128))) = true := decide_eq_true c25
              clear c25
              by_cases c26 : ((wrap64 ((wrap64 ((wrap64 ((wrap64 ((wrap64 ((wrap64 (bt a0 0)) - 224)) * 4096)) + (wrap64 ((wrap64 ((wrap64 (bt a0 1)) - 128)) * 64)))) + (wrap64 (bt a0 2)))) - 128)) ≤ 57343)
              ·rw [if_pos c26] at H
               have c26b0 : decide ((wrap64 ((wrap64 ((wrap64 ((wrap64 ((wrap64 ((wrap64 (bt a0 0)) - 224)) * 4096)) + (wrap64 ((wrap64 ((wrap64 (bt a0 1)) - 128)) * 64)))) + (wrap64 (bt a0 2)))) - 128)) ≤ 57343) = true := decide_eq_true c26
               clear c26
               have H' := Aside0.mk H
               clear H
               have p21 : 0 ≤ (1 : Int) := (by omega)
               have q21 : 1 < a0.size := (by have : (1 : Int) < (a0.size : Int) := of_decide_eq_true (by first | (with_reducible assumption) | assumption); omega)
               have hx21 : ∀ h : 1 < a0.size, ((a0[1]'h).toNat : Int) = bt a0 1 := bt_at a0 1
               clear p21
               have qi21 : (1 < (a0.size : Int)) = True := eq_true (of_decide_eq_true (by first | (with_reducible assumption) | assumption))
               replace q21 := eq_true q21
               have p23 : 0 ≤ (2 : Int) := (by omega)
               have q23 : 2 < a0.size := (by have : (2 : Int) < (a0.size : Int) := of_decide_eq_true (by first | (with_reducible assumption) | assumption); omega)
               have hx23 : ∀ h : 2 < a0.size, ((a0[2]'h).toNat : Int) = bt a0 2 := bt_at a0 2
               clear p23
               have qi23 : (2 < (a0.size : Int)) = True := eq_true (of_decide_eq_true (by first | (with_reducible assumption) | assumption))
               replace q23 := eq_true q23
               go_wp2
               repeat (go_quiet (fail); try go_wp2)
               go_meet
               case rel => exact ⟨_, H', ⟨by have := HJ4.out; have := HJ11.out; first | omega | exact Nat.le_refl _⟩, by repeat (first | exact Drawn0.refl _ | apply Drawn0.step)⟩
              ·rw [if_neg c26] at H
               have c26b0 : decide ((wrap64 ((wrap64 ((wrap64 ((wrap64 ((wrap64 ((wrap64 (bt a0 0)) - 224)) * 4096)) + (wrap64 ((wrap64 ((wrap64 (bt a0 1)) - 128)) * 64)))) + (wrap64 (bt a0 2)))) - 128)) ≤ 57343) = false := decide_eq_false c26
               clear c26
               simp only [Option.some.injEq, Prod.mk.injEq] at H
               obtain ⟨rfl, rfl⟩ := H
               have p21 : 0 ≤ (1 : Int) := (by omega)
               have q21 : 1 < a0.size := (by have : (1 : Int) < (a0.size : Int) := of_decide_eq_true (by first | (with_reducible assumption) | assumption); omega)
               have hx21 : ∀ h : 1 < a0.size, ((a0[1]'h).toNat : Int) = bt a0 1 := bt_at a0 1
               clear p21
               have qi21 : (1 < (a0.size : Int)) = True := eq_true (of_decide_eq_true (by first | (with_reducible assumption) | assumption))
               replace q21 := eq_true q21
               have p23 : 0 ≤ (2 : Int) := (by omega)
               have q23 : 2 < a0.size := (by have : (2 : Int) < (a0.size : Int) := of_decide_eq_true (by first | (with_reducible assumption) | assumption); omega)
               have hx23 : ∀ h : 2 < a0.size, ((a0[2]'h).toNat : Int) = bt a0 2 := bt_at a0 2
               clear p23
               have qi23 : (2 < (a0.size : Int)) = True := eq_true (of_decide_eq_true (by first | (with_reducible assumption) | assumption))
               replace q23 := eq_true q23
               go_wp2
               repeat (go_quiet (fail); try go_wp2)
               go_ret2
               exact ⟨by first | rfl | (simp; done) | (simp [*]; done), by repeat (first | exact Drawn0.refl _ | apply Drawn0.step)⟩
             ·rw [if_neg c25] at H
              have c25b0 : decide (55296 ≤ (wrap64 ((wrap64 ((wrap64 ((wrap64 ((wrap64 ((wrap64 (bt a0 0)) - 224)) * 4096)) + (wrap64 ((wrap64 ((wrap64 (bt a0 1)) - 128)) * 64)))) + (wrap64 (bt a0 2)))) - 128))) = false := decide_eq_false c25
              clear c25
              simp only [Option.some.injEq, Prod.mk.injEq] at H
              obtain ⟨rfl, rfl⟩ := H
              have p21 : 0 ≤ (1 : Int) := (by omega)
              have q21 : 1 < a0.size := (by have : (1 : Int) < (a0.size : Int) := of_decide_eq_true (by first | (with_reducible assumption) | assumption); omega)
              have hx21 : ∀ h : 1 < a0.size, ((a0[1]'h).toNat : Int) = bt a0 1 := bt_at a0 1
              clear p21
              have qi21 : (1 < (a0.size : Int)) = True := eq_true (of_decide_eq_true (by first | (with_reducible assumption) | assumption))
              replace q21 := eq_true q21
              have p23 : 0 ≤ (2 : Int) := (by omega)
              have q23 : 2 < a0.size := (by have : (2 : Int) < (a0.size : Int) := of_decide_eq_true (by first | (with_reducible assumption) | assumption); omega)
              have hx23 : ∀ h : 2 < a0.size, ((a0[2]'h).toNat : Int) = bt a0 2 := bt_at a0 2
              clear p23
              have qi23 : (2 < (a0.size : Int)) = True := eq_true (of_decide_eq_true (by first | (with_reducible assumption) | assumption))
              replace q23 := eq_true q23
              go_wp2
              repeat (go_quiet (fail); try go_wp2)
              go_ret2
              exact ⟨by first | rfl | (simp; done) | (simp [*]; done), by repeat (first | exact Drawn0.refl _ | apply Drawn0.step)⟩
            ·rw [if_neg c24] at H
             have c24b0 : decide (2048 ≤ (wrap64 ((wrap64 ((wrap64 ((wrap64 ((wrap64 ((wrap64 (bt a0 0)) - 224)) * 4096)) + (wrap64 ((wrap64 ((wrap64 (bt a0 1)) - 128)) * 64)))) + (wrap64 (bt a0 2)))) - 128))) = false := decide_eq_false c24
             clear c24
             have H' := Aside0.mk H
             clear H
             have p21 : 0 ≤ (1 : Int) := (by omega)
             have q21 : 1 < a0.size := (by have : (1 : Int) < (a0.size : Int) := of_decide_eq_true (by first | (with_reducible assumption) | assumption); omega)
             have hx21 : ∀ h : 1 < a0.size, ((a0[1]'h).toNat : Int) = bt a0 1 := bt_at a0 1
             clear p21
             have qi21 : (1 < (a0.size : Int)) = True := eq_true (of_decide_eq_true (by first | (with_reducible assumption) | assumption))
             replace q21 := eq_true q21
             have p23 : 0 ≤ (2 : Int) := (by omega)
             have q23 : 2 < a0.size := (by have : (2 : Int) < (a0.size : Int) := of_decide_eq_true (by first | (with_reducible assumption) | assumption); omega)
             have hx23 : ∀ h : 2 < a0.size, ((a0[2]'h).toNat : Int) = bt a0 2 := bt_at a0 2
             clear p23
             have qi23 : (2 < (a0.size : Int)) = True := eq_true (of_decide_eq_true (by first | (with_reducible assumption) | assumption))
             replace q23 := eq_true q23
             go_wp2
             repeat (go_quiet (fail); try go_wp2)
             go_meet
             case rel => exact ⟨_, H', ⟨by have := HJ4.out; have := HJ11.out; first | omega | exact Nat.le_refl _⟩, by repeat (first | exact Drawn0.refl _ | apply Drawn0.step)⟩
           ·rw [if_neg c22] at H
            exact absurd H (by simp)
          ·rw [if_neg c20] at H
           exact absurd H (by simp)
         ·replace c19 := Bool.eq_false_iff.mpr c19
          subst c19
          have H1 : (rootcellarref1_Rune.j2 kj11 a0 (wrap64 (bt a0 0))) = some (r1, r2) := by rw [if_neg (show ¬ (false = true) by decide)] at H; exact H
          clear H
          have H := H1
          clear H1
          have H' := Aside0.mk H
          clear H
          go_wp2
          repeat (go_quiet (fail); try go_wp2)
          go_meet
          case rel => exact ⟨_, H', ⟨by have := HJ4.out; have := HJ11.out; first | omega | exact Nat.le_refl _⟩, by repeat (first | exact Drawn0.refl _ | apply Drawn0.step)⟩
        case rest =>
         clear HC18
         try clear c1
         try clear p1
         try clear q1
         try clear hx1
         try clear qi1
         try clear c2
         try clear c2b0
         try clear c2b1
         try clear p2
         try clear q2
         try clear hx2
         try clear qi2
         try clear p3
         try clear q3
         try clear hx3
         try clear qi3
         try clear c4
         try clear c4b0
         try clear c6
         try clear c6b0
         try clear p6
         try clear c7
         try clear c7b0
         try clear c9
         try clear c10
         try clear c10b0
         try clear c10b1
         try clear c11
         try clear p11
         try clear q11
         try clear hx11
         try clear qi11
         try clear c13
         try clear c13b0
         try clear c14
         try clear c14b0
         try clear c16
         try clear c19
         try clear c20
         try clear c20b0
         try clear c20b1
         try clear c21
         try clear p21
         try clear q21
         try clear hx21
         try clear qi21
         try clear c22
         try clear c22b0
         try clear c22b1
         try clear p23
         try clear q23
         try clear hx23
         try clear qi23
         try clear c24
         try clear c24b0
         try clear c25
         try clear c25b0
         try clear c26
         try clear c26b0
         try clear p1
         try clear p11
         try clear p2
         try clear p21
         try clear p23
         try clear p3
         try clear p6
         try clear q1
         try clear q11
         try clear q21
         try clear q23
         try clear q3
         obtain ⟨kq, HA, HJ17, ⟨mc17, rfl⟩⟩ := hcut
         cases kq with
         | zero => exact absurd HA.out (by simp [rootcellarref1_Rune.j2])
         | succ kj17 =>
          have H := HA.out
          clear HA
          simp only [rootcellarref1_Rune.j2] at H
          have HC27 := Aside0.mk H
          clear H
          go_upto_region 10 with (fail)
          repeat (go_quiet (fail); go_upto_region 10 with (fail))
          go_cut [88] (fun v88 wc => ∃ (kq : Nat) (x88_26 : Bool), v88 = .bool x88_26 ∧ Aside0 (rootcellarref1_Rune.j3 kq a0 (wrap64 (bt a0 0)) x88_26 = some (r1, r2)) ∧ Aside0 (kq ≤ kj17) ∧ Drawn0 w wc)
          case first =>
           have H := HC27.out
           clear HC27
           by_cases c28 : (wrap64 (bt a0 0)) ≥ 240
           ·rw [if_pos c28] at H
            have c28b0 : decide (240 ≤ (wrap64 (bt a0 0))) = true := decide_eq_true c28
            clear c28
            (first | rw [c28b0] | (simp only [i64_w, i32_w]; rw [c28b0]) | skip)
            by_cases c29 : (wrap64 (bt a0 0)) ≤ 244
            ·rw [if_pos c29] at H
             have c29b0 : decide ((wrap64 (bt a0 0)) ≤ 244) = true := decide_eq_true c29
             clear c29
             replace H := Option.bind_eq_some_iff.mp H
             obtain ⟨t110, A300, H⟩ := H
             replace H : (if t110 = true then ((rootcellarref1_more.f a0 2).bind fun t111 => (if t111 = true then ((rootcellarref1_more.f a0 3).bind fun t112 => (rootcellarref1_Rune.j3 kj17 a0 (wrap64 (bt a0 0)) t112)) else (rootcellarref1_Rune.j3 kj17 a0 (wrap64 (bt a0 0)) false))) else (rootcellarref1_Rune.j3 kj17 a0 (wrap64 (bt a0 0)) false)) = some (r1, r2) := H
             have A30 := Aside0.mk A300
             clear A300
             by_cases c31 : t110 = true
             ·subst c31
              have H1 : ((rootcellarref1_more.f a0 2).bind fun t111 => (if t111 = true then ((rootcellarref1_more.f a0 3).bind fun t112 => (rootcellarref1_Rune.j3 kj17 a0 (wrap64 (bt a0 0)) t112)) else (rootcellarref1_Rune.j3 kj17 a0 (wrap64 (bt a0 0)) false))) = some (r1, r2) := by rw [if_pos rfl] at H; exact H
              clear H
              have H := H1
              clear H1
              replace H := Option.bind_eq_some_iff.mp H
              obtain ⟨t111, A320, H⟩ := H
              replace H : (if t111 = true then ((rootcellarref1_more.f a0 3).bind fun t112 => (rootcellarref1_Rune.j3 kj17 a0 (wrap64 (bt a0 0)) t112)) else (rootcellarref1_Rune.j3 kj17 a0 (wrap64 (bt a0 0)) false)) = some (r1, r2) := H
              have A32 := Aside0.mk A320
              clear A320
              by_cases c33 : t111 = true
              ·subst c33
               have H1 : ((rootcellarref1_more.f a0 3).bind fun t112 => (rootcellarref1_Rune.j3 kj17 a0 (wrap64 (bt a0 0)) t112)) = some (r1, r2) := by rw [if_pos rfl] at H; exact H
               clear H
               have H := H1
               clear H1
               replace H := Option.bind_eq_some_iff.mp H
               obtain ⟨t112, A340, H⟩ := H
               replace H : (rootcellarref1_Rune.j3 kj17 a0 (wrap64 (bt a0 0)) t112) = some (r1, r2) := H
               have A34 := Aside0.mk A340
               clear A340
               have H' := Aside0.mk H
               clear H
               go_wp2_with (first | (go_at_call 34; (with_reducible refine (rootcellarref1_more.calls a0 1 true _ A30.out).mono ?_); rintro e w' ⟨rfl, ⟨nd, rfl⟩⟩; (try first | exact ⟨rfl, _, World.drewN_drewN _ _ _⟩ | exact ⟨rfl, _, Eq.trans (World.drewN_drewN _ _ _) (congrArg (World.drewN _) (Nat.add_assoc _ _ _))⟩)) | (go_at_call 34; (with_reducible refine (rootcellarref1_more.calls a0 2 true _ A32.out).mono ?_); rintro e w' ⟨rfl, ⟨nd, rfl⟩⟩; (try first | exact ⟨rfl, _, World.drewN_drewN _ _ _⟩ | exact ⟨rfl, _, Eq.trans (World.drewN_drewN _ _ _) (congrArg (World.drewN _) (Nat.add_assoc _ _ _))⟩)) | (go_at_call 34; (with_reducible refine (rootcellarref1_more.calls a0 3 t112 _ A34.out).mono ?_); rintro e w' ⟨rfl, ⟨nd, rfl⟩⟩; (try first | exact ⟨rfl, _, World.drewN_drewN _ _ _⟩ | exact ⟨rfl, _, Eq.trans (World.drewN_drewN _ _ _) (congrArg (World.drewN _) (Nat.add_assoc _ _ _))⟩)))
               repeat (go_quiet (first | (go_at_call 34; (with_reducible refine (rootcellarref1_more.calls a0 1 true _ A30.out).mono ?_); rintro e w' ⟨rfl, ⟨nd, rfl⟩⟩; (try first | exact ⟨rfl, _, World.drewN_drewN _ _ _⟩ | exact ⟨rfl, _, Eq.trans (World.drewN_drewN _ _ _) (congrArg (World.drewN _) (Nat.add_assoc _ _ _))⟩)) | (go_at_call 34; (with_reducible refine (rootcellarref1_more.calls a0 2 true _ A32.out).mono ?_); rintro e w' ⟨rfl, ⟨nd, rfl⟩⟩; (try first | exact ⟨rfl, _, World.drewN_drewN _ _ _⟩ | exact ⟨rfl, _, Eq.trans (World.drewN_drewN _ _ _) (congrArg (World.drewN _) (Nat.add_assoc _ _ _))⟩)) | (go_at_call 34; (with_reducible refine (rootcellarref1_more.calls a0 3 t112 _ A34.out).mono ?_); rintro e w' ⟨rfl, ⟨nd, rfl⟩⟩; (try first | exact ⟨rfl, _, World.drewN_drewN _ _ _⟩ | exact ⟨rfl, _, Eq.trans (World.drewN_drewN _ _ _) (congrArg (World.drewN _) (Nat.add_assoc _ _ _))⟩))); try go_wp2_with (first | (go_at_call 34; (with_reducible refine (rootcellarref1_more.calls a0 1 true _ A30.out).mono ?_); rintro e w' ⟨rfl, ⟨nd, rfl⟩⟩; (try first | exact ⟨rfl, _, World.drewN_drewN _ _ _⟩ | exact ⟨rfl, _, Eq.trans (World.drewN_drewN _ _ _) (congrArg (World.drewN _) (Nat.add_assoc _ _ _))⟩)) | (go_at_call 34; (with_reducible refine (rootcellarref1_more.calls a0 2 true _ A32.out).mono ?_); rintro e w' ⟨rfl, ⟨nd, rfl⟩⟩; (try first | exact ⟨rfl, _, World.drewN_drewN _ _ _⟩ | exact ⟨rfl, _, Eq.trans (World.drewN_drewN _ _ _) (congrArg (World.drewN _) (Nat.add_assoc _ _ _))⟩)) | (go_at_call 34; (with_reducible refine (rootcellarref1_more.calls a0 3 t112 _ A34.out).mono ?_); rintro e w' ⟨rfl, ⟨nd, rfl⟩⟩; (try first | exact ⟨rfl, _, World.drewN_drewN _ _ _⟩ | exact ⟨rfl, _, Eq.trans (World.drewN_drewN _ _ _) (congrArg (World.drewN _) (Nat.add_assoc _ _ _))⟩))))
               go_meet
               case rel => exact ⟨_, (t112), (by first | rfl | (simp; done) | (simp [*]; done)), H', ⟨by have := HJ4.out; have := HJ11.out; have := HJ17.out; first | omega | exact Nat.le_refl _⟩, by repeat (first | exact Drawn0.refl _ | apply Drawn0.step)⟩
              ·replace c33 := Bool.eq_false_iff.mpr c33
               subst c33
               have H1 : (rootcellarref1_Rune.j3 kj17 a0 (wrap64 (bt a0 0)) false) = some (r1, r2) := by rw [if_neg (show ¬ (false = true) by decide)] at H; exact H
               clear H
               have H := H1
               clear H1
               have H' := Aside0.mk H
               clear H
               go_wp2_with (first | (go_at_call 34; (with_reducible refine (rootcellarref1_more.calls a0 1 true _ A30.out).mono ?_); rintro e w' ⟨rfl, ⟨nd, rfl⟩⟩; (try first | exact ⟨rfl, _, World.drewN_drewN _ _ _⟩ | exact ⟨rfl, _, Eq.trans (World.drewN_drewN _ _ _) (congrArg (World.drewN _) (Nat.add_assoc _ _ _))⟩)) | (go_at_call 34; (with_reducible refine (rootcellarref1_more.calls a0 2 false _ A32.out).mono ?_); rintro e w' ⟨rfl, ⟨nd, rfl⟩⟩; (try first | exact ⟨rfl, _, World.drewN_drewN _ _ _⟩ | exact ⟨rfl, _, Eq.trans (World.drewN_drewN _ _ _) (congrArg (World.drewN _) (Nat.add_assoc _ _ _))⟩)))
               repeat (go_quiet (first | (go_at_call 34; (with_reducible refine (rootcellarref1_more.calls a0 1 true _ A30.out).mono ?_); rintro e w' ⟨rfl, ⟨nd, rfl⟩⟩; (try first | exact ⟨rfl, _, World.drewN_drewN _ _ _⟩ | exact ⟨rfl, _, Eq.trans (World.drewN_drewN _ _ _) (congrArg (World.drewN _) (Nat.add_assoc _ _ _))⟩)) | (go_at_call 34; (with_reducible refine (rootcellarref1_more.calls a0 2 false _ A32.out).mono ?_); rintro e w' ⟨rfl, ⟨nd, rfl⟩⟩; (try first | exact ⟨rfl, _, World.drewN_drewN _ _ _⟩ | exact ⟨rfl, _, Eq.trans (World.drewN_drewN _ _ _) (congrArg (World.drewN _) (Nat.add_assoc _ _ _))⟩))); try go_wp2_with (first | (go_at_call 34; (with_reducible refine (rootcellarref1_more.calls a0 1 true _ A30.out).mono ?_); rintro e w' ⟨rfl, ⟨nd, rfl⟩⟩; (try first | exact ⟨rfl, _, World.drewN_drewN _ _ _⟩ | exact ⟨rfl, _, Eq.trans (World.drewN_drewN _ _ _) (congrArg (World.drewN _) (Nat.add_assoc _ _ _))⟩)) | (go_at_call 34; (with_reducible refine (rootcellarref1_more.calls a0 2 false _ A32.out).mono ?_); rintro e w' ⟨rfl, ⟨nd, rfl⟩⟩; (try first | exact ⟨rfl, _, World.drewN_drewN _ _ _⟩ | exact ⟨rfl, _, Eq.trans (World.drewN_drewN _ _ _) (congrArg (World.drewN _) (Nat.add_assoc _ _ _))⟩))))
               go_meet
               case rel => exact ⟨_, (false), (by first | rfl | (simp; done) | (simp [*]; done)), H', ⟨by have := HJ4.out; have := HJ11.out; have := HJ17.out; first | omega | exact Nat.le_refl _⟩, by repeat (first | exact Drawn0.refl _ | apply Drawn0.step)⟩
             ·replace c31 := Bool.eq_false_iff.mpr c31
              subst c31
              have H1 : (rootcellarref1_Rune.j3 kj17 a0 (wrap64 (bt a0 0)) false) = some (r1, r2) := by rw [if_neg (show ¬ (false = true) by decide)] at H; exact H
              clear H
              have H := H1
              clear H1
              have H' := Aside0.mk H
              clear H
              go_wp2_with (first | (go_at_call 34; (with_reducible refine (rootcellarref1_more.calls a0 1 false _ A30.out).mono ?_); rintro e w' ⟨rfl, ⟨nd, rfl⟩⟩; (try first | exact ⟨rfl, _, World.drewN_drewN _ _ _⟩ | exact ⟨rfl, _, Eq.trans (World.drewN_drewN _ _ _) (congrArg (World.drewN _) (Nat.add_assoc _ _ _))⟩)))
              repeat (go_quiet (first | (go_at_call 34; (with_reducible refine (rootcellarref1_more.calls a0 1 false _ A30.out).mono ?_); rintro e w' ⟨rfl, ⟨nd, rfl⟩⟩; (try first | exact ⟨rfl, _, World.drewN_drewN _ _ _⟩ | exact ⟨rfl, _, Eq.trans (World.drewN_drewN _ _ _) (congrArg (World.drewN _) (Nat.add_assoc _ _ _))⟩))); try go_wp2_with (first | (go_at_call 34; (with_reducible refine (rootcellarref1_more.calls a0 1 false _ A30.out).mono ?_); rintro e w' ⟨rfl, ⟨nd, rfl⟩⟩; (try first | exact ⟨rfl, _, World.drewN_drewN _ _ _⟩ | exact ⟨rfl, _, Eq.trans (World.drewN_drewN _ _ _) (congrArg (World.drewN _) (Nat.add_assoc _ _ _))⟩))))
              go_meet
              case rel => exact ⟨_, (false), (by first | rfl | (simp; done) | (simp [*]; done)), H', ⟨by have := HJ4.out; have := HJ11.out; have := HJ17.out; first | omega | exact Nat.le_refl _⟩, by repeat (first | exact Drawn0.refl _ | apply Drawn0.step)⟩
            ·rw [if_neg c29] at H
             have c29b0 : decide ((wrap64 (bt a0 0)) ≤ 244) = false := decide_eq_false c29
             clear c29
             have H' := Aside0.mk H
             clear H
             go_wp2
             repeat (go_quiet (fail); try go_wp2)
             go_meet
             case rel => exact ⟨_, (false), (by first | rfl | (simp; done) | (simp [*]; done)), H', ⟨by have := HJ4.out; have := HJ11.out; have := HJ17.out; first | omega | exact Nat.le_refl _⟩, by repeat (first | exact Drawn0.refl _ | apply Drawn0.step)⟩
           ·rw [if_neg c28] at H
            have c28b0 : decide (240 ≤ (wrap64 (bt a0 0))) = false := decide_eq_false c28
            clear c28
            (first | rw [c28b0] | (simp only [i64_w, i32_w]; rw [c28b0]) | skip)
            have H' := Aside0.mk H
            clear H
            go_wp2
            repeat (go_quiet (fail); try go_wp2)
            go_meet
            case rel => exact ⟨_, (false), (by first | rfl | (simp; done) | (simp [*]; done)), H', ⟨by have := HJ4.out; have := HJ11.out; have := HJ17.out; first | omega | exact Nat.le_refl _⟩, by repeat (first | exact Drawn0.refl _ | apply Drawn0.step)⟩
          case rest =>
           clear HC27
           try clear c1
           try clear p1
           try clear q1
           try clear hx1
           try clear qi1
           try clear c2
           try clear c2b0
           try clear c2b1
           try clear p2
           try clear q2
           try clear hx2
           try clear qi2
           try clear c3
           try clear p3
           try clear q3
           try clear hx3
           try clear qi3
           try clear c4
           try clear c4b0
           try clear c6
           try clear c6b0
           try clear p6
           try clear c7
           try clear c7b0
           try clear c9
           try clear c10
           try clear c10b0
           try clear c10b1
           try clear c11
           try clear p11
           try clear q11
           try clear hx11
           try clear qi11
           try clear c13
           try clear c13b0
           try clear c14
           try clear c14b0
           try clear c16
           try clear c17
           try clear c19
           try clear c20
           try clear c20b0
           try clear c20b1
           try clear c21
           try clear p21
           try clear q21
           try clear hx21
           try clear qi21
           try clear c22
           try clear c22b0
           try clear c22b1
           try clear p23
           try clear q23
           try clear hx23
           try clear qi23
           try clear c24
           try clear c24b0
           try clear c25
           try clear c25b0
           try clear c26
           try clear c26b0
           try clear c28
           try clear c28b0
           try clear c29
           try clear c29b0
           try clear c31
           try clear c33
           try clear p1
           try clear p11
           try clear p2
           try clear p21
           try clear p23
           try clear p3
           try clear p6
           try clear q1
           try clear q11
           try clear q2
           try clear q21
           try clear q23
           try clear q3
           obtain ⟨kq, x88_26, rfl, HA, HJ26, ⟨mc26, rfl⟩⟩ := hcut
           cases kq with
           | zero => exact absurd HA.out (by simp [rootcellarref1_Rune.j3])
           | succ kj26 =>
            have H := HA.out
            clear HA
            simp only [rootcellarref1_Rune.j3] at H
            by_cases c35 : x88_26 = true
            ·subst c35
             have H1 : (if 1 < (a0.size : Int) then (if 2 < (a0.size : Int) then (if 3 < (a0.size : Int) then (if (wrap64 ((wrap64 ((wrap64 ((wrap64 ((wrap64 ((wrap64 ((wrap64 (bt a0 0)) - 240)) * 262144)) + (wrap64 ((wrap64 ((wrap64 (bt a0 1)) - 128)) * 4096)))) + (wrap64 ((wrap64 ((wrap64 (bt a0 2)) - 128)) * 64)))) + (wrap64 (bt a0 3)))) - 128)) ≥ 65536 then (if (wrap64 ((wrap64 ((wrap64 ((wrap64 ((wrap64 ((wrap64 ((wrap64 (bt a0 0)) - 240)) * 262144)) + (wrap64 ((wrap64 ((wrap64 (bt a0 1)) - 128)) * 4096)))) + (wrap64 ((wrap64 ((wrap64 (bt a0 2)) - 128)) * 64)))) + (wrap64 (bt a0 3)))) - 128)) ≤ 1114111 then (some (wrap64 ((wrap64 ((wrap64 ((wrap64 ((wrap64 ((wrap64 ((wrap64 (bt a0 0)) - 240)) * 262144)) + (wrap64 ((wrap64 ((wrap64 (bt a0 1)) - 128)) * 4096)))) + (wrap64 ((wrap64 ((wrap64 (bt a0 2)) - 128)) * 64)))) + (wrap64 (bt a0 3)))) - 128), 4)) else (some ((-1), 1))) else (some ((-1), 1))) else (none)) else (none)) else (none)) = some (r1, r2) := by rw [if_pos rfl] at H; exact H
             clear H
             have H := H1
             clear H1
             by_cases c36 : 1 < (a0.size : Int)
             ·rw [if_pos c36] at H
              have c36b0 : decide (1 < (a0.size : Int)) = true := decide_eq_true c36
              have c36b1 : decide (1 < a0.size) = true := decide_eq_true (by omega)
              clear c36
              by_cases c38 : 2 < (a0.size : Int)
              ·rw [if_pos c38] at H
               have c38b0 : decide (2 < (a0.size : Int)) = true := decide_eq_true c38
               have c38b1 : decide (2 < a0.size) = true := decide_eq_true (by omega)
               clear c38
               by_cases c40 : 3 < (a0.size : Int)
               ·rw [if_pos c40] at H
                have c40b0 : decide (3 < (a0.size : Int)) = true := decide_eq_true c40
                have c40b1 : decide (3 < a0.size) = true := decide_eq_true (by omega)
                clear c40
                by_cases c42 : (wrap64 ((wrap64 ((wrap64 ((wrap64 ((wrap64 ((wrap64 ((wrap64 (bt a0 0)) - 240)) * 262144)) + (wrap64 ((wrap64 ((wrap64 (bt a0 1)) - 128)) * 4096)))) + (wrap64 ((wrap64 ((wrap64 (bt a0 2)) - 128)) * 64)))) + (wrap64 (bt a0 3)))) - 128)) ≥ 65536
                ·rw [if_pos c42] at H
                 have c42b0 : decide (65536 ≤ (wrap64 ((wrap64 ((wrap64 ((wrap64 ((wrap64 ((wrap64 ((wrap64 (bt a0 0)) - 240)) * 262144)) + (wrap64 ((wrap64 ((wrap64 (bt a0 1)) - 128)) * 4096)))) + (wrap64 ((wrap64 ((wrap64 (bt a0 2)) - 128)) * 64)))) + (wrap64 (bt a0 3)))) - 128))) = true := decide_eq_true c42
                 clear c42
                 by_cases c43 : (wrap64 ((wrap64 ((wrap64 ((wrap64 ((wrap64 ((wrap64 ((wrap64 (bt a0 0)) - 240)) * 262144)) + (wrap64 ((wrap64 ((wrap64 (bt a0 1)) - 128)) * 4096)))) + (wrap64 ((wrap64 ((wrap64 (bt a0 2)) - 128)) * 64)))) + (wrap64 (bt a0 3)))) - 128)) ≤ 1114111
                 ·rw [if_pos c43] at H
                  have c43b0 : decide ((wrap64 ((wrap64 ((wrap64 ((wrap64 ((wrap64 ((wrap64 ((wrap64 (bt a0 0)) - 240)) * 262144)) + (wrap64 ((wrap64 ((wrap64 (bt a0 1)) - 128)) * 4096)))) + (wrap64 ((wrap64 ((wrap64 (bt a0 2)) - 128)) * 64)))) + (wrap64 (bt a0 3)))) - 128)) ≤ 1114111) = true := decide_eq_true c43
                  clear c43
                  simp only [Option.some.injEq, Prod.mk.injEq] at H
                  obtain ⟨rfl, rfl⟩ := H
                  have p37 : 0 ≤ (1 : Int) := (by omega)
                  have q37 : 1 < a0.size := (by have : (1 : Int) < (a0.size : Int) := of_decide_eq_true (by first | (with_reducible assumption) | assumption); omega)
                  have hx37 : ∀ h : 1 < a0.size, ((a0[1]'h).toNat : Int) = bt a0 1 := bt_at a0 1
                  clear p37
                  have qi37 : (1 < (a0.size : Int)) = True := eq_true (of_decide_eq_true (by first | (with_reducible assumption) | assumption))
                  replace q37 := eq_true q37
                  have p39 : 0 ≤ (2 : Int) := (by omega)
                  have q39 : 2 < a0.size := (by have : (2 : Int) < (a0.size : Int) := of_decide_eq_true (by first | (with_reducible assumption) | assumption); omega)
                  have hx39 : ∀ h : 2 < a0.size, ((a0[2]'h).toNat : Int) = bt a0 2 := bt_at a0 2
                  clear p39
                  have qi39 : (2 < (a0.size : Int)) = True := eq_true (of_decide_eq_true (by first | (with_reducible assumption) | assumption))
                  replace q39 := eq_true q39
                  have p41 : 0 ≤ (3 : Int) := (by omega)
                  have q41 : 3 < a0.size := (by have : (3 : Int) < (a0.size : Int) := of_decide_eq_true (by first | (with_reducible assumption) | assumption); omega)
                  have hx41 : ∀ h : 3 < a0.size, ((a0[3]'h).toNat : Int) = bt a0 3 := bt_at a0 3
                  clear p41
                  have qi41 : (3 < (a0.size : Int)) = True := eq_true (of_decide_eq_true (by first | (with_reducible assumption) | assumption))
                  replace q41 := eq_true q41
                  go_wp2
                  repeat (go_quiet (fail); try go_wp2)
                  go_ret2
                  exact ⟨by first | rfl | (simp; done) | (simp [*]; done), by repeat (first | exact Drawn0.refl _ | apply Drawn0.step)⟩
                 ·rw [if_neg c43] at H
                  have c43b0 : decide ((wrap64 ((wrap64 ((wrap64 ((wrap64 ((wrap64 ((wrap64 ((wrap64 (bt a0 0)) - 240)) * 262144)) + (wrap64 ((wrap64 ((wrap64 (bt a0 1)) - 128)) * 4096)))) + (wrap64 ((wrap64 ((wrap64 (bt a0 2)) - 128)) * 64)))) + (wrap64 (bt a0 3)))) - 128)) ≤ 1114111) = false := decide_eq_false c43
                  clear c43
                  simp only [Option.some.injEq, Prod.mk.injEq] at H
                  obtain ⟨rfl, rfl⟩ := H
                  have p37 : 0 ≤ (1 : Int) := (by omega)
                  have q37 : 1 < a0.size := (by have : (1 : Int) < (a0.size : Int) := of_decide_eq_true (by first | (with_reducible assumption) | assumption); omega)
                  have hx37 : ∀ h : 1 < a0.size, ((a0[1]'h).toNat : Int) = bt a0 1 := bt_at a0 1
                  clear p37
                  have qi37 : (1 < (a0.size : Int)) = True := eq_true (of_decide_eq_true (by first | (with_reducible assumption) | assumption))
                  replace q37 := eq_true q37
                  have p39 : 0 ≤ (2 : Int) := (by omega)
                  have q39 : 2 < a0.size := (by have : (2 : Int) < (a0.size : Int) := of_decide_eq_true (by first | (with_reducible assumption) | assumption); omega)
                  have hx39 : ∀ h : 2 < a0.size, ((a0[2]'h).toNat : Int) = bt a0 2 := bt_at a0 2
                  clear p39
                  have qi39 : (2 < (a0.size : Int)) = True := eq_true (of_decide_eq_true (by first | (with_reducible assumption) | assumption))
                  replace q39 := eq_true q39
                  have p41 : 0 ≤ (3 : Int) := (by omega)
                  have q41 : 3 < a0.size := (by have : (3 : Int) < (a0.size : Int) := of_decide_eq_true (by first | (with_reducible assumption) | assumption); omega)
                  have hx41 : ∀ h : 3 < a0.size, ((a0[3]'h).toNat : Int) = bt a0 3 := bt_at a0 3
                  clear p41
                  have qi41 : (3 < (a0.size : Int)) = True := eq_true (of_decide_eq_true (by first | (with_reducible assumption) | assumption))
                  replace q41 := eq_true q41
                  go_wp2
                  repeat (go_quiet (fail); try go_wp2)
                  go_ret2
                  exact ⟨by first | rfl | (simp; done) | (simp [*]; done), by repeat (first | exact Drawn0.refl _ | apply Drawn0.step)⟩
                ·rw [if_neg c42] at H
                 have c42b0 : decide (65536 ≤ (wrap64 ((wrap64 ((wrap64 ((wrap64 ((wrap64 ((wrap64 ((wrap64 (bt a0 0)) - 240)) * 262144)) + (wrap64 ((wrap64 ((wrap64 (bt a0 1)) - 128)) * 4096)))) + (wrap64 ((wrap64 ((wrap64 (bt a0 2)) - 128)) * 64)))) + (wrap64 (bt a0 3)))) - 128))) = false := decide_eq_false c42
                 clear c42
                 simp only [Option.some.injEq, Prod.mk.injEq] at H
                 obtain ⟨rfl, rfl⟩ := H
                 have p37 : 0 ≤ (1 : Int) := (by omega)
                 have q37 : 1 < a0.size := (by have : (1 : Int) < (a0.size : Int) := of_decide_eq_true (by first | (with_reducible assumption) | assumption); omega)
                 have hx37 : ∀ h : 1 < a0.size, ((a0[1]'h).toNat : Int) = bt a0 1 := bt_at a0 1
                 clear p37
                 have qi37 : (1 < (a0.size : Int)) = True := eq_true (of_decide_eq_true (by first | (with_reducible assumption) | assumption))
                 replace q37 := eq_true q37
                 have p39 : 0 ≤ (2 : Int) := (by omega)
                 have q39 : 2 < a0.size := (by have : (2 : Int) < (a0.size : Int) := of_decide_eq_true (by first | (with_reducible assumption) | assumption); omega)
                 have hx39 : ∀ h : 2 < a0.size, ((a0[2]'h).toNat : Int) = bt a0 2 := bt_at a0 2
                 clear p39
                 have qi39 : (2 < (a0.size : Int)) = True := eq_true (of_decide_eq_true (by first | (with_reducible assumption) | assumption))
                 replace q39 := eq_true q39
                 have p41 : 0 ≤ (3 : Int) := (by omega)
                 have q41 : 3 < a0.size := (by have : (3 : Int) < (a0.size : Int) := of_decide_eq_true (by first | (with_reducible assumption) | assumption); omega)
                 have hx41 : ∀ h : 3 < a0.size, ((a0[3]'h).toNat : Int) = bt a0 3 := bt_at a0 3
                 clear p41
                 have qi41 : (3 < (a0.size : Int)) = True := eq_true (of_decide_eq_true (by first | (with_reducible assumption) | assumption))
                 replace q41 := eq_true q41
                 go_wp2
                 repeat (go_quiet (fail); try go_wp2)
                 go_ret2
                 exact ⟨by first | rfl | (simp; done) | (simp [*]; done), by repeat (first | exact Drawn0.refl _ | apply Drawn0.step)⟩
               ·rw [if_neg c40] at H
                exact absurd H (by simp)
              ·rw [if_neg c38] at H
               exact absurd H (by simp)
             ·rw [if_neg c36] at H
              exact absurd H (by simp)
            ·replace c35 := Bool.eq_false_iff.mpr c35
             subst c35
             have H1 : (some ((-1), 1)) = some (r1, r2) := by rw [if_neg (show ¬ (false = true) by decide)] at H; exact H
             clear H
             have H := H1
             clear H1
             simp only [Option.some.injEq, Prod.mk.injEq] at H
             obtain ⟨rfl, rfl⟩ := H
             go_wp2
             repeat (go_quiet (fail); try go_wp2)
             go_ret2
             exact ⟨by first | rfl | (simp; done) | (simp [*]; done), by repeat (first | exact Drawn0.refl _ | apply Drawn0.step)⟩
 ·rw [if_neg c2] at H
  exact absurd H (by simp)

end Go.Proofs.YtcgpaopbcclbiaaDoor.Fn
end
section
-- Written by printx.py, a program of this session over the kit's print: each Go function as a plain Lean function, and that the Go code computes it.

namespace Go.Proofs.YtcgpaopbcclbiaaDoor.Fn
open Go.RowKit Go.Proofs.YtcgpaopbcclbiaaDoorW.PrintWords Go.Proofs.YtcgpaopbcclbiaaDoorW.PrintLast Go.Proofs.YtcgpaopbcclbiaaDoorW.PrintMore Go.Proofs.YtcgpaopbcclbiaaDoor.Lf
attribute [local go_sem] max2_int min2_int max_two min_two max_three min_three max_four min_four   -- for this text's walks alone
set_option linter.unusedVariables false
set_option linter.unusedSimpArgs false

/-! ### rootcellarlaw1_shown: function 5 -/
def rootcellarlaw1_shown.f  : Option (Bool) := (label_Count.f (⟨#[97, 195, 169]⟩ : ByteArray)).bind fun t101 => (if t101 = 2 then ((label_First.f (⟨#[195, 169, 97]⟩ : ByteArray) 1).bind fun t102 => (if t102.toList = ([195, 169] : List UInt8) then ((label_Quote.f (⟨#[97, 32, 195, 169, 92]⟩ : ByteArray)).bind fun t103 => (if t103.toList = ([97, 92, 123, 50, 48, 125, 92, 123, 101, 57, 125, 92, 92] : List UInt8) then ((label_Quote.f (⟨#[255]⟩ : ByteArray)).bind fun t104 => (if t104.toList = ([92, 33, 102, 102] : List UInt8) then ((label_Right.f (⟨#[98, 101, 102, 111, 114, 101, 32, 108, 117, 110, 99, 104]⟩ : ByteArray)).bind fun t105 => (if t105 = true then ((label_Right.f (⟨#[32, 120]⟩ : ByteArray)).bind fun t106 => (some (!t106))) else (some false))) else (some false))) else (some false))) else (some false))) else (some false))
set_option maxHeartbeats 8000000 in
set_option maxRecDepth 100000 in
theorem rootcellarlaw1_shown.calls  (r : Bool) (w : World) (h : rootcellarlaw1_shown.f  = some r) (HT : Tabs w) :
  Calls Tryd.prog 5 #[] w fun e w' => e = .returned (.bool r) ∧ Below w.heap.size w w' := by
 have HB := Aside0.mk (Below.refl w.heap.size w)
 have H : ((label_Count.f (⟨#[97, 195, 169]⟩ : ByteArray)).bind fun t101 => (if t101 = 2 then ((label_First.f (⟨#[195, 169, 97]⟩ : ByteArray) 1).bind fun t102 => (if t102.toList = ([195, 169] : List UInt8) then ((label_Quote.f (⟨#[97, 32, 195, 169, 92]⟩ : ByteArray)).bind fun t103 => (if t103.toList = ([97, 92, 123, 50, 48, 125, 92, 123, 101, 57, 125, 92, 92] : List UInt8) then ((label_Quote.f (⟨#[255]⟩ : ByteArray)).bind fun t104 => (if t104.toList = ([92, 33, 102, 102] : List UInt8) then ((label_Right.f (⟨#[98, 101, 102, 111, 114, 101, 32, 108, 117, 110, 99, 104]⟩ : ByteArray)).bind fun t105 => (if t105 = true then ((label_Right.f (⟨#[32, 120]⟩ : ByteArray)).bind fun t106 => (some (!t106))) else (some false))) else (some false))) else (some false))) else (some false))) else (some false))) = some r := h
 clear h
 replace H := Option.bind_eq_some_iff.mp H
 obtain ⟨t101, A10, H⟩ := H
 replace H : (if t101 = 2 then ((label_First.f (⟨#[195, 169, 97]⟩ : ByteArray) 1).bind fun t102 => (if t102.toList = ([195, 169] : List UInt8) then ((label_Quote.f (⟨#[97, 32, 195, 169, 92]⟩ : ByteArray)).bind fun t103 => (if t103.toList = ([97, 92, 123, 50, 48, 125, 92, 123, 101, 57, 125, 92, 92] : List UInt8) then ((label_Quote.f (⟨#[255]⟩ : ByteArray)).bind fun t104 => (if t104.toList = ([92, 33, 102, 102] : List UInt8) then ((label_Right.f (⟨#[98, 101, 102, 111, 114, 101, 32, 108, 117, 110, 99, 104]⟩ : ByteArray)).bind fun t105 => (if t105 = true then ((label_Right.f (⟨#[32, 120]⟩ : ByteArray)).bind fun t106 => (some (!t106))) else (some false))) else (some false))) else (some false))) else (some false))) else (some false)) = some r := H
 have A1 := Aside0.mk A10
 clear A10
 by_cases c2 : t101 = 2
 ·rw [if_pos c2] at H
  have c2b0 : (t101 == 2) = true := beq_iff_eq.mpr c2
  have c2b1 : (t101 != 2) = false := bne_eq_false_iff_eq.mpr c2
  clear c2
  replace H := Option.bind_eq_some_iff.mp H
  obtain ⟨t102, A30, H⟩ := H
  replace H : (if t102.toList = ([195, 169] : List UInt8) then ((label_Quote.f (⟨#[97, 32, 195, 169, 92]⟩ : ByteArray)).bind fun t103 => (if t103.toList = ([97, 92, 123, 50, 48, 125, 92, 123, 101, 57, 125, 92, 92] : List UInt8) then ((label_Quote.f (⟨#[255]⟩ : ByteArray)).bind fun t104 => (if t104.toList = ([92, 33, 102, 102] : List UInt8) then ((label_Right.f (⟨#[98, 101, 102, 111, 114, 101, 32, 108, 117, 110, 99, 104]⟩ : ByteArray)).bind fun t105 => (if t105 = true then ((label_Right.f (⟨#[32, 120]⟩ : ByteArray)).bind fun t106 => (some (!t106))) else (some false))) else (some false))) else (some false))) else (some false)) = some r := H
  have A3 := Aside0.mk A30
  clear A30
  by_cases c4 : t102.toList = ([195, 169] : List UInt8)
  ·rw [if_pos c4] at H
   have c4b0 : (t102.toList == ([195, 169] : List UInt8)) = true := beq_iff_eq.mpr c4
   have c4b1 : (t102.toList != ([195, 169] : List UInt8)) = false := bne_eq_false_iff_eq.mpr c4
   clear c4
   replace H := Option.bind_eq_some_iff.mp H
   obtain ⟨t103, A50, H⟩ := H
   replace H : (if t103.toList = ([97, 92, 123, 50, 48, 125, 92, 123, 101, 57, 125, 92, 92] : List UInt8) then ((label_Quote.f (⟨#[255]⟩ : ByteArray)).bind fun t104 => (if t104.toList = ([92, 33, 102, 102] : List UInt8) then ((label_Right.f (⟨#[98, 101, 102, 111, 114, 101, 32, 108, 117, 110, 99, 104]⟩ : ByteArray)).bind fun t105 => (if t105 = true then ((label_Right.f (⟨#[32, 120]⟩ : ByteArray)).bind fun t106 => (some (!t106))) else (some false))) else (some false))) else (some false)) = some r := H
   have A5 := Aside0.mk A50
   clear A50
   by_cases c6 : t103.toList = ([97, 92, 123, 50, 48, 125, 92, 123, 101, 57, 125, 92, 92] : List UInt8)
   ·rw [if_pos c6] at H
    have c6b0 : (t103.toList == ([97, 92, 123, 50, 48, 125, 92, 123, 101, 57, 125, 92, 92] : List UInt8)) = true := beq_iff_eq.mpr c6
    have c6b1 : (t103.toList != ([97, 92, 123, 50, 48, 125, 92, 123, 101, 57, 125, 92, 92] : List UInt8)) = false := bne_eq_false_iff_eq.mpr c6
    clear c6
    replace H := Option.bind_eq_some_iff.mp H
    obtain ⟨t104, A70, H⟩ := H
    replace H : (if t104.toList = ([92, 33, 102, 102] : List UInt8) then ((label_Right.f (⟨#[98, 101, 102, 111, 114, 101, 32, 108, 117, 110, 99, 104]⟩ : ByteArray)).bind fun t105 => (if t105 = true then ((label_Right.f (⟨#[32, 120]⟩ : ByteArray)).bind fun t106 => (some (!t106))) else (some false))) else (some false)) = some r := H
    have A7 := Aside0.mk A70
    clear A70
    by_cases c8 : t104.toList = ([92, 33, 102, 102] : List UInt8)
    ·rw [if_pos c8] at H
     have c8b0 : (t104.toList == ([92, 33, 102, 102] : List UInt8)) = true := beq_iff_eq.mpr c8
     have c8b1 : (t104.toList != ([92, 33, 102, 102] : List UInt8)) = false := bne_eq_false_iff_eq.mpr c8
     clear c8
     replace H := Option.bind_eq_some_iff.mp H
     obtain ⟨t105, A90, H⟩ := H
     replace H : (if t105 = true then ((label_Right.f (⟨#[32, 120]⟩ : ByteArray)).bind fun t106 => (some (!t106))) else (some false)) = some r := H
     have A9 := Aside0.mk A90
     clear A90
     by_cases c10 : t105 = true
     ·subst c10
      have H1 : ((label_Right.f (⟨#[32, 120]⟩ : ByteArray)).bind fun t106 => (some (!t106))) = some r := by rw [if_pos rfl] at H; exact H
      clear H
      have H := H1
      clear H1
      replace H := Option.bind_eq_some_iff.mp H
      obtain ⟨t106, A110, H⟩ := H
      replace H : (some (!t106)) = some r := H
      have A11 := Aside0.mk A110
      clear A110
      obtain rfl := Option.some.inj H
      go_enter Tryd.func5, Tryd.ntmps5
      go_wp2_with (first | ((with_reducible refine gate_callee (f := 10) rfl ?_); refine goesL_ (some 1) rfl rfl Tryd.func10 (by kernel_rfl) rfl #[.string (⟨#[97, 195, 169]⟩ : ByteArray)] rfl (by (try simp only [List.map_toArray, List.map_cons, List.map_nil]); first | done | rfl | (simp only [List.length_drop, List.length_take]; rfl) | (rw [wrap_sum2 (by assumption)]; rfl)) ?_; (with_reducible refine (label_Count.calls (⟨#[97, 195, 169]⟩ : ByteArray) t101 _ A1.out).mono ?_); rintro e w12 ⟨rfl, hb⟩; refine ⟨_, rfl, ?_⟩; have n0_ := Aside0.mk (below_step (by repeat (first | (with_reducible first | exact HB.out | apply below_alloc | apply pw_below_drewN | apply below_drew1) | exact HB.out)) hb); clear HB; have HB := n0_; clear n0_; (try clear hb); (try clear hb2); (try clear hk); (try clear hi)) | (go_at_call 11; (with_reducible refine (label_First.calls (⟨#[195, 169, 97]⟩ : ByteArray) 1 t102 _ A3.out).mono ?_); rintro e w13 ⟨rfl, hb⟩; have n0_ := Aside0.mk (below_step (by repeat (first | (with_reducible first | exact HB.out | apply below_alloc | apply pw_below_drewN | apply below_drew1) | exact HB.out)) hb); clear HB; have HB := n0_; clear n0_; (try clear hb); (try clear hb2); (try clear hk); (try clear hi)) | (go_at_call 8; (with_reducible refine (label_Quote.calls (⟨#[97, 32, 195, 169, 92]⟩ : ByteArray) t103 _ A5.out (HT.below (by repeat (first | (with_reducible first | exact HB.out | apply below_alloc | apply pw_below_drewN | apply below_drew1) | exact HB.out)))).mono ?_); rintro e w14 ⟨rfl, hb⟩; have n0_ := Aside0.mk (below_step (by repeat (first | (with_reducible first | exact HB.out | apply below_alloc | apply pw_below_drewN | apply below_drew1) | exact HB.out)) hb); clear HB; have HB := n0_; clear n0_; (try clear hb); (try clear hb2); (try clear hk); (try clear hi)) | (go_at_call 8; (with_reducible refine (label_Quote.calls (⟨#[255]⟩ : ByteArray) t104 _ A7.out (HT.below (by repeat (first | (with_reducible first | exact HB.out | apply below_alloc | apply pw_below_drewN | apply below_drew1) | exact HB.out)))).mono ?_); rintro e w15 ⟨rfl, hb⟩; have n0_ := Aside0.mk (below_step (by repeat (first | (with_reducible first | exact HB.out | apply below_alloc | apply pw_below_drewN | apply below_drew1) | exact HB.out)) hb); clear HB; have HB := n0_; clear n0_; (try clear hb); (try clear hb2); (try clear hk); (try clear hi)) | (go_at_call 12; (with_reducible refine (label_Right.calls (⟨#[98, 101, 102, 111, 114, 101, 32, 108, 117, 110, 99, 104]⟩ : ByteArray) true _ A9.out (HT.below (by repeat (first | (with_reducible first | exact HB.out | apply below_alloc | apply pw_below_drewN | apply below_drew1) | exact HB.out)))).mono ?_); rintro e w16 ⟨rfl, hb⟩; have n0_ := Aside0.mk (below_step (by repeat (first | (with_reducible first | exact HB.out | apply below_alloc | apply pw_below_drewN | apply below_drew1) | exact HB.out)) hb); clear HB; have HB := n0_; clear n0_; (try clear hb); (try clear hb2); (try clear hk); (try clear hi)) | (go_at_call 12; (with_reducible refine (label_Right.calls (⟨#[32, 120]⟩ : ByteArray) t106 _ A11.out (HT.below (by repeat (first | (with_reducible first | exact HB.out | apply below_alloc | apply pw_below_drewN | apply below_drew1) | exact HB.out)))).mono ?_); rintro e w17 ⟨rfl, hb⟩; have n0_ := Aside0.mk (below_step (by repeat (first | (with_reducible first | exact HB.out | apply below_alloc | apply pw_below_drewN | apply below_drew1) | exact HB.out)) hb); clear HB; have HB := n0_; clear n0_; (try clear hb); (try clear hb2); (try clear hk); (try clear hi)))
      go_ret
      exact ⟨by first | rfl | (simp [errW_none, errW_some] <;> rfl) | (simp [*, errW_none, errW_some] <;> rfl), by repeat (first | (with_reducible first | exact HB.out | apply below_alloc | apply pw_below_drewN | apply below_drew1) | exact HB.out)⟩
     ·replace c10 := Bool.eq_false_iff.mpr c10
      subst c10
      have H1 : (some false) = some r := by rw [if_neg (show ¬ (false = true) by decide)] at H; exact H
      clear H
      have H := H1
      clear H1
      obtain rfl := Option.some.inj H
      go_enter Tryd.func5, Tryd.ntmps5
      go_wp2_with (first | ((with_reducible refine gate_callee (f := 10) rfl ?_); refine goesL_ (some 1) rfl rfl Tryd.func10 (by kernel_rfl) rfl #[.string (⟨#[97, 195, 169]⟩ : ByteArray)] rfl (by (try simp only [List.map_toArray, List.map_cons, List.map_nil]); first | done | rfl | (simp only [List.length_drop, List.length_take]; rfl) | (rw [wrap_sum2 (by assumption)]; rfl)) ?_; (with_reducible refine (label_Count.calls (⟨#[97, 195, 169]⟩ : ByteArray) t101 _ A1.out).mono ?_); rintro e w18 ⟨rfl, hb⟩; refine ⟨_, rfl, ?_⟩; have n0_ := Aside0.mk (below_step (by repeat (first | (with_reducible first | exact HB.out | apply below_alloc | apply pw_below_drewN | apply below_drew1) | exact HB.out)) hb); clear HB; have HB := n0_; clear n0_; (try clear hb); (try clear hb2); (try clear hk); (try clear hi)) | (go_at_call 11; (with_reducible refine (label_First.calls (⟨#[195, 169, 97]⟩ : ByteArray) 1 t102 _ A3.out).mono ?_); rintro e w19 ⟨rfl, hb⟩; have n0_ := Aside0.mk (below_step (by repeat (first | (with_reducible first | exact HB.out | apply below_alloc | apply pw_below_drewN | apply below_drew1) | exact HB.out)) hb); clear HB; have HB := n0_; clear n0_; (try clear hb); (try clear hb2); (try clear hk); (try clear hi)) | (go_at_call 8; (with_reducible refine (label_Quote.calls (⟨#[97, 32, 195, 169, 92]⟩ : ByteArray) t103 _ A5.out (HT.below (by repeat (first | (with_reducible first | exact HB.out | apply below_alloc | apply pw_below_drewN | apply below_drew1) | exact HB.out)))).mono ?_); rintro e w20 ⟨rfl, hb⟩; have n0_ := Aside0.mk (below_step (by repeat (first | (with_reducible first | exact HB.out | apply below_alloc | apply pw_below_drewN | apply below_drew1) | exact HB.out)) hb); clear HB; have HB := n0_; clear n0_; (try clear hb); (try clear hb2); (try clear hk); (try clear hi)) | (go_at_call 8; (with_reducible refine (label_Quote.calls (⟨#[255]⟩ : ByteArray) t104 _ A7.out (HT.below (by repeat (first | (with_reducible first | exact HB.out | apply below_alloc | apply pw_below_drewN | apply below_drew1) | exact HB.out)))).mono ?_); rintro e w21 ⟨rfl, hb⟩; have n0_ := Aside0.mk (below_step (by repeat (first | (with_reducible first | exact HB.out | apply below_alloc | apply pw_below_drewN | apply below_drew1) | exact HB.out)) hb); clear HB; have HB := n0_; clear n0_; (try clear hb); (try clear hb2); (try clear hk); (try clear hi)) | (go_at_call 12; (with_reducible refine (label_Right.calls (⟨#[98, 101, 102, 111, 114, 101, 32, 108, 117, 110, 99, 104]⟩ : ByteArray) false _ A9.out (HT.below (by repeat (first | (with_reducible first | exact HB.out | apply below_alloc | apply pw_below_drewN | apply below_drew1) | exact HB.out)))).mono ?_); rintro e w22 ⟨rfl, hb⟩; have n0_ := Aside0.mk (below_step (by repeat (first | (with_reducible first | exact HB.out | apply below_alloc | apply pw_below_drewN | apply below_drew1) | exact HB.out)) hb); clear HB; have HB := n0_; clear n0_; (try clear hb); (try clear hb2); (try clear hk); (try clear hi)))
      go_ret
      exact ⟨by first | rfl | (simp [errW_none, errW_some] <;> rfl) | (simp [*, errW_none, errW_some] <;> rfl), by repeat (first | (with_reducible first | exact HB.out | apply below_alloc | apply pw_below_drewN | apply below_drew1) | exact HB.out)⟩
    ·rw [if_neg c8] at H
     have c8b0 : (t104.toList == ([92, 33, 102, 102] : List UInt8)) = false := beq_eq_false_iff_ne.mpr c8
     have c8b1 : (t104.toList != ([92, 33, 102, 102] : List UInt8)) = true := bne_iff_ne.mpr c8
     obtain rfl := Option.some.inj H
     go_enter Tryd.func5, Tryd.ntmps5
     go_wp2_with (first | ((with_reducible refine gate_callee (f := 10) rfl ?_); refine goesL_ (some 1) rfl rfl Tryd.func10 (by kernel_rfl) rfl #[.string (⟨#[97, 195, 169]⟩ : ByteArray)] rfl (by (try simp only [List.map_toArray, List.map_cons, List.map_nil]); first | done | rfl | (simp only [List.length_drop, List.length_take]; rfl) | (rw [wrap_sum2 (by assumption)]; rfl)) ?_; (with_reducible refine (label_Count.calls (⟨#[97, 195, 169]⟩ : ByteArray) t101 _ A1.out).mono ?_); rintro e w23 ⟨rfl, hb⟩; refine ⟨_, rfl, ?_⟩; have n0_ := Aside0.mk (below_step (by repeat (first | (with_reducible first | exact HB.out | apply below_alloc | apply pw_below_drewN | apply below_drew1) | exact HB.out)) hb); clear HB; have HB := n0_; clear n0_; (try clear hb); (try clear hb2); (try clear hk); (try clear hi)) | (go_at_call 11; (with_reducible refine (label_First.calls (⟨#[195, 169, 97]⟩ : ByteArray) 1 t102 _ A3.out).mono ?_); rintro e w24 ⟨rfl, hb⟩; have n0_ := Aside0.mk (below_step (by repeat (first | (with_reducible first | exact HB.out | apply below_alloc | apply pw_below_drewN | apply below_drew1) | exact HB.out)) hb); clear HB; have HB := n0_; clear n0_; (try clear hb); (try clear hb2); (try clear hk); (try clear hi)) | (go_at_call 8; (with_reducible refine (label_Quote.calls (⟨#[97, 32, 195, 169, 92]⟩ : ByteArray) t103 _ A5.out (HT.below (by repeat (first | (with_reducible first | exact HB.out | apply below_alloc | apply pw_below_drewN | apply below_drew1) | exact HB.out)))).mono ?_); rintro e w25 ⟨rfl, hb⟩; have n0_ := Aside0.mk (below_step (by repeat (first | (with_reducible first | exact HB.out | apply below_alloc | apply pw_below_drewN | apply below_drew1) | exact HB.out)) hb); clear HB; have HB := n0_; clear n0_; (try clear hb); (try clear hb2); (try clear hk); (try clear hi)) | (go_at_call 8; (with_reducible refine (label_Quote.calls (⟨#[255]⟩ : ByteArray) t104 _ A7.out (HT.below (by repeat (first | (with_reducible first | exact HB.out | apply below_alloc | apply pw_below_drewN | apply below_drew1) | exact HB.out)))).mono ?_); rintro e w26 ⟨rfl, hb⟩; have n0_ := Aside0.mk (below_step (by repeat (first | (with_reducible first | exact HB.out | apply below_alloc | apply pw_below_drewN | apply below_drew1) | exact HB.out)) hb); clear HB; have HB := n0_; clear n0_; (try clear hb); (try clear hb2); (try clear hk); (try clear hi)))
     go_ret
     exact ⟨by first | rfl | (simp [errW_none, errW_some] <;> rfl) | (simp [*, errW_none, errW_some] <;> rfl), by repeat (first | (with_reducible first | exact HB.out | apply below_alloc | apply pw_below_drewN | apply below_drew1) | exact HB.out)⟩
   ·rw [if_neg c6] at H
    have c6b0 : (t103.toList == ([97, 92, 123, 50, 48, 125, 92, 123, 101, 57, 125, 92, 92] : List UInt8)) = false := beq_eq_false_iff_ne.mpr c6
    have c6b1 : (t103.toList != ([97, 92, 123, 50, 48, 125, 92, 123, 101, 57, 125, 92, 92] : List UInt8)) = true := bne_iff_ne.mpr c6
    obtain rfl := Option.some.inj H
    go_enter Tryd.func5, Tryd.ntmps5
    go_wp2_with (first | ((with_reducible refine gate_callee (f := 10) rfl ?_); refine goesL_ (some 1) rfl rfl Tryd.func10 (by kernel_rfl) rfl #[.string (⟨#[97, 195, 169]⟩ : ByteArray)] rfl (by (try simp only [List.map_toArray, List.map_cons, List.map_nil]); first | done | rfl | (simp only [List.length_drop, List.length_take]; rfl) | (rw [wrap_sum2 (by assumption)]; rfl)) ?_; (with_reducible refine (label_Count.calls (⟨#[97, 195, 169]⟩ : ByteArray) t101 _ A1.out).mono ?_); rintro e w27 ⟨rfl, hb⟩; refine ⟨_, rfl, ?_⟩; have n0_ := Aside0.mk (below_step (by repeat (first | (with_reducible first | exact HB.out | apply below_alloc | apply pw_below_drewN | apply below_drew1) | exact HB.out)) hb); clear HB; have HB := n0_; clear n0_; (try clear hb); (try clear hb2); (try clear hk); (try clear hi)) | (go_at_call 11; (with_reducible refine (label_First.calls (⟨#[195, 169, 97]⟩ : ByteArray) 1 t102 _ A3.out).mono ?_); rintro e w28 ⟨rfl, hb⟩; have n0_ := Aside0.mk (below_step (by repeat (first | (with_reducible first | exact HB.out | apply below_alloc | apply pw_below_drewN | apply below_drew1) | exact HB.out)) hb); clear HB; have HB := n0_; clear n0_; (try clear hb); (try clear hb2); (try clear hk); (try clear hi)) | (go_at_call 8; (with_reducible refine (label_Quote.calls (⟨#[97, 32, 195, 169, 92]⟩ : ByteArray) t103 _ A5.out (HT.below (by repeat (first | (with_reducible first | exact HB.out | apply below_alloc | apply pw_below_drewN | apply below_drew1) | exact HB.out)))).mono ?_); rintro e w29 ⟨rfl, hb⟩; have n0_ := Aside0.mk (below_step (by repeat (first | (with_reducible first | exact HB.out | apply below_alloc | apply pw_below_drewN | apply below_drew1) | exact HB.out)) hb); clear HB; have HB := n0_; clear n0_; (try clear hb); (try clear hb2); (try clear hk); (try clear hi)))
    go_ret
    exact ⟨by first | rfl | (simp [errW_none, errW_some] <;> rfl) | (simp [*, errW_none, errW_some] <;> rfl), by repeat (first | (with_reducible first | exact HB.out | apply below_alloc | apply pw_below_drewN | apply below_drew1) | exact HB.out)⟩
  ·rw [if_neg c4] at H
   have c4b0 : (t102.toList == ([195, 169] : List UInt8)) = false := beq_eq_false_iff_ne.mpr c4
   have c4b1 : (t102.toList != ([195, 169] : List UInt8)) = true := bne_iff_ne.mpr c4
   obtain rfl := Option.some.inj H
   go_enter Tryd.func5, Tryd.ntmps5
   go_wp2_with (first | ((with_reducible refine gate_callee (f := 10) rfl ?_); refine goesL_ (some 1) rfl rfl Tryd.func10 (by kernel_rfl) rfl #[.string (⟨#[97, 195, 169]⟩ : ByteArray)] rfl (by (try simp only [List.map_toArray, List.map_cons, List.map_nil]); first | done | rfl | (simp only [List.length_drop, List.length_take]; rfl) | (rw [wrap_sum2 (by assumption)]; rfl)) ?_; (with_reducible refine (label_Count.calls (⟨#[97, 195, 169]⟩ : ByteArray) t101 _ A1.out).mono ?_); rintro e w30 ⟨rfl, hb⟩; refine ⟨_, rfl, ?_⟩; have n0_ := Aside0.mk (below_step (by repeat (first | (with_reducible first | exact HB.out | apply below_alloc | apply pw_below_drewN | apply below_drew1) | exact HB.out)) hb); clear HB; have HB := n0_; clear n0_; (try clear hb); (try clear hb2); (try clear hk); (try clear hi)) | (go_at_call 11; (with_reducible refine (label_First.calls (⟨#[195, 169, 97]⟩ : ByteArray) 1 t102 _ A3.out).mono ?_); rintro e w31 ⟨rfl, hb⟩; have n0_ := Aside0.mk (below_step (by repeat (first | (with_reducible first | exact HB.out | apply below_alloc | apply pw_below_drewN | apply below_drew1) | exact HB.out)) hb); clear HB; have HB := n0_; clear n0_; (try clear hb); (try clear hb2); (try clear hk); (try clear hi)))
   go_ret
   exact ⟨by first | rfl | (simp [errW_none, errW_some] <;> rfl) | (simp [*, errW_none, errW_some] <;> rfl), by repeat (first | (with_reducible first | exact HB.out | apply below_alloc | apply pw_below_drewN | apply below_drew1) | exact HB.out)⟩
 ·rw [if_neg c2] at H
  have c2b0 : (t101 == 2) = false := beq_eq_false_iff_ne.mpr c2
  have c2b1 : (t101 != 2) = true := bne_iff_ne.mpr c2
  obtain rfl := Option.some.inj H
  go_enter Tryd.func5, Tryd.ntmps5
  go_wp2_with (first | ((with_reducible refine gate_callee (f := 10) rfl ?_); refine goesL_ (some 1) rfl rfl Tryd.func10 (by kernel_rfl) rfl #[.string (⟨#[97, 195, 169]⟩ : ByteArray)] rfl (by (try simp only [List.map_toArray, List.map_cons, List.map_nil]); first | done | rfl | (simp only [List.length_drop, List.length_take]; rfl) | (rw [wrap_sum2 (by assumption)]; rfl)) ?_; (with_reducible refine (label_Count.calls (⟨#[97, 195, 169]⟩ : ByteArray) t101 _ A1.out).mono ?_); rintro e w32 ⟨rfl, hb⟩; refine ⟨_, rfl, ?_⟩; have n0_ := Aside0.mk (below_step (by repeat (first | (with_reducible first | exact HB.out | apply below_alloc | apply pw_below_drewN | apply below_drew1) | exact HB.out)) hb); clear HB; have HB := n0_; clear n0_; (try clear hb); (try clear hb2); (try clear hk); (try clear hi)))
  go_ret
  exact ⟨by first | rfl | (simp [errW_none, errW_some] <;> rfl) | (simp [*, errW_none, errW_some] <;> rfl), by repeat (first | (with_reducible first | exact HB.out | apply below_alloc | apply pw_below_drewN | apply below_drew1) | exact HB.out)⟩


end Go.Proofs.YtcgpaopbcclbiaaDoor.Fn
end
section
-- Written by printx.py, a program of this session over the kit's print: each Go function as a plain Lean function, and that the Go code computes it.


namespace Go.Proofs.YtcgpaopbcclbiaaDoor.Fn
open Go.RowKit Go.Proofs.YtcgpaopbcclbiaaDoorW.PrintWords Go.Proofs.YtcgpaopbcclbiaaDoorW.PrintLast Go.Proofs.YtcgpaopbcclbiaaDoorW.PrintMore Go.Proofs.YtcgpaopbcclbiaaDoor.Lf
attribute [local go_sem] max2_int min2_int max_two min_two max_three min_three max_four min_four   -- for this text's walks alone
set_option linter.unusedVariables false
set_option linter.unusedSimpArgs false

/-! ### rootcellarlaw1_LabelBack: function 4 -/
mutual
def rootcellarlaw1_LabelBack.j0 : Nat → ByteArray → ByteArray → Bool → Bool → Option (Bool)
 | 0, _, _, _, _ => none
 | k + 1, x0, x1, x5, x22 => if x22 = true then (some x5) else ((label_Quote.f x0).bind fun t163 => (rootcellarlaw1_LabelBack.l0 k x0 x1 t163 0))
def rootcellarlaw1_LabelBack.l0 : Nat → ByteArray → ByteArray → ByteArray → Int → Option (Bool)
 | 0, _, _, _, _ => none
 | k + 1, x0, x1, x6, x7 => if x7 < (x6.size : Int) then (if 0 ≤ x7 then (if (bt x6 x7) < 33 then (some false) else (if (bt x6 x7) > 126 then (some false) else (rootcellarlaw1_LabelBack.l0 k x0 x1 x6 (wrap64 (x7 + 1))))) else (none)) else ((label_Unquote.f x6).bind fun bt164 => (if bt164.1.toList = x0.toList then (if bt164.2 = 0 then (if x6.toList = ([] : List UInt8) then (some false) else ((label_Quote.f x1).bind fun t166 => (some ((x6.toList == t166.toList) == (x0.toList == x1.toList))))) else (some false)) else (some false)))
end
def rootcellarlaw1_LabelBack.f (k : Nat) (a0 : ByteArray) (a1 : ByteArray) : Option (Bool) := (rootcellarlaw1_shown.f).bind fun t162 => (if t162 = true then (if (a0.size : Int) > 500 then (rootcellarlaw1_LabelBack.j0 k a0 a1 t162 true) else (rootcellarlaw1_LabelBack.j0 k a0 a1 t162 (decide ((a1.size : Int) > 500)))) else (rootcellarlaw1_LabelBack.j0 k a0 a1 t162 true))
theorem rootcellarlaw1_LabelBack.mono_l : ∀ k, (∀ y0 y1 y2 y3, LeO (rootcellarlaw1_LabelBack.j0 k y0 y1 y2 y3) (rootcellarlaw1_LabelBack.j0 (k + 1) y0 y1 y2 y3)) ∧ (∀ y0 y1 y2 y3, LeO (rootcellarlaw1_LabelBack.l0 k y0 y1 y2 y3) (rootcellarlaw1_LabelBack.l0 (k + 1) y0 y1 y2 y3))
 | 0 => ⟨fun _ _ _ _ r h => by simp [rootcellarlaw1_LabelBack.j0] at h, fun _ _ _ _ r h => by simp [rootcellarlaw1_LabelBack.l0] at h⟩
 | k + 1 => by
  obtain ⟨ih0, ih1⟩ := rootcellarlaw1_LabelBack.mono_l k
  refine ⟨?_, ?_⟩
  ·intro y0 y1 y2 y3
   unfold rootcellarlaw1_LabelBack.j0
   repeat' first
   | (with_reducible exact ih0 _ _ _ _)
   | (with_reducible exact ih1 _ _ _ _)
   | (with_reducible exact LeO.refl _)
   | (with_reducible exact LeO.none _)
   | (with_reducible refine LeO.ite ?_ ?_)
   | (with_reducible refine LeO.bind ?_ (fun _ => ?_))
   | exact ih0 _ _ _ _
   | exact ih1 _ _ _ _
   | exact LeO.none _
   | refine LeO.ite ?_ ?_
   | refine LeO.bind ?_ (fun _ => ?_)
  ·intro y0 y1 y2 y3
   unfold rootcellarlaw1_LabelBack.l0
   repeat' first
   | (with_reducible exact ih0 _ _ _ _)
   | (with_reducible exact ih1 _ _ _ _)
   | (with_reducible exact LeO.refl _)
   | (with_reducible exact LeO.none _)
   | (with_reducible refine LeO.ite ?_ ?_)
   | (with_reducible refine LeO.bind ?_ (fun _ => ?_))
   | exact ih0 _ _ _ _
   | exact ih1 _ _ _ _
   | exact LeO.none _
   | refine LeO.ite ?_ ?_
   | refine LeO.bind ?_ (fun _ => ?_)
theorem rootcellarlaw1_LabelBack.mono : ∀ a0 a1 k, LeO (rootcellarlaw1_LabelBack.f k a0 a1) (rootcellarlaw1_LabelBack.f (k + 1) a0 a1) := by
 intro a0 a1 k
 obtain ⟨ih0, ih1⟩ := rootcellarlaw1_LabelBack.mono_l k
 unfold rootcellarlaw1_LabelBack.f
 repeat' first
   | (with_reducible exact ih0 _ _ _ _)
   | (with_reducible exact ih1 _ _ _ _)
   | (with_reducible exact LeO.refl _)
   | (with_reducible exact LeO.none _)
   | (with_reducible refine LeO.ite ?_ ?_)
   | (with_reducible refine LeO.bind ?_ (fun _ => ?_))
   | exact ih0 _ _ _ _
   | exact ih1 _ _ _ _
   | exact LeO.none _
   | refine LeO.ite ?_ ?_
   | refine LeO.bind ?_ (fun _ => ?_)
set_option maxHeartbeats 8000000 in
set_option maxRecDepth 100000 in
theorem rootcellarlaw1_LabelBack.calls (k : Nat) (a0 : ByteArray) (a1 : ByteArray) (r : Bool) (w : World) (h : rootcellarlaw1_LabelBack.f k a0 a1 = some r) (HT : Tabs w) :
  Calls Tryd.prog 4 #[.string a0, .string a1] w fun e w' => e = .returned (.bool r) ∧ Below w.heap.size w w' := by
 have HB := Aside0.mk (Below.refl w.heap.size w)
 have H : ((rootcellarlaw1_shown.f).bind fun t162 => (if t162 = true then (if (a0.size : Int) > 500 then (rootcellarlaw1_LabelBack.j0 k a0 a1 t162 true) else (rootcellarlaw1_LabelBack.j0 k a0 a1 t162 (decide ((a1.size : Int) > 500)))) else (rootcellarlaw1_LabelBack.j0 k a0 a1 t162 true))) = some r := h
 clear h
 replace H := Option.bind_eq_some_iff.mp H
 obtain ⟨t162, A30, H⟩ := H
 replace H : (if t162 = true then (if (a0.size : Int) > 500 then (rootcellarlaw1_LabelBack.j0 k a0 a1 t162 true) else (rootcellarlaw1_LabelBack.j0 k a0 a1 t162 (decide ((a1.size : Int) > 500)))) else (rootcellarlaw1_LabelBack.j0 k a0 a1 t162 true)) = some r := H
 have A3 := Aside0.mk A30
 clear A30
 have HC4 := Aside0.mk H
 clear H
 go_enter Tryd.func4, Tryd.ntmps4
 go_upto_region 2 with (first | ((with_reducible refine gate_callee (f := 5) rfl ?_); refine goesL_ (some 10) rfl rfl Tryd.func5 (by kernel_rfl) rfl #[] rfl (by (try simp only [List.map_toArray, List.map_cons, List.map_nil]); first | done | rfl | (simp only [List.length_drop, List.length_take]; rfl) | (rw [wrap_sum2 (by assumption)]; rfl)) ?_; (with_reducible refine (rootcellarlaw1_shown.calls  t162 _ A3.out (HT.below (by repeat (first | (with_reducible first | exact HB.out | apply below_alloc | apply pw_below_drewN | apply below_drew1) | exact HB.out)))).mono ?_); rintro e w5 ⟨rfl, hb⟩; refine ⟨_, rfl, ?_⟩; have n0_ := Aside0.mk (below_step (by repeat (first | (with_reducible first | exact HB.out | apply below_alloc | apply pw_below_drewN | apply below_drew1) | exact HB.out)) hb); clear HB; have HB := n0_; clear n0_; (try clear hb); (try clear hb2); (try clear hk); (try clear hi)))
 (try simp only [Act.put, List.setIfInBounds_toArray, List.set_cons_zero, List.set_cons_succ])
 go_cut [22] (fun v22 wc => ∃ (kq : Nat) (x22_3 : Bool), v22 = .bool x22_3 ∧ Aside0 (rootcellarlaw1_LabelBack.j0 kq a0 a1 t162 x22_3 = some r) ∧ Aside0 (kq ≤ k) ∧ Aside0 (Below w.heap.size w wc))
 case first =>
  have H := HC4.out
  clear HC4
  by_cases c6 : t162 = true
  ·subst c6
   have H1 : (if (a0.size : Int) > 500 then (rootcellarlaw1_LabelBack.j0 k a0 a1 true true) else (rootcellarlaw1_LabelBack.j0 k a0 a1 true (decide ((a1.size : Int) > 500)))) = some r := by rw [if_pos rfl] at H; exact H
   clear H
   have H := H1
   clear H1
   by_cases c7 : (a0.size : Int) > 500
   ·rw [if_pos c7] at H
    have c7b0 : decide (500 < (a0.size : Int)) = true := decide_eq_true c7
    have c7b1 : decide (500 < a0.size) = true := decide_eq_true (by omega)
    clear c7
    (first | rw [c7b0] | (simp only [i64_w, i32_w]; rw [c7b0]) | skip)
    have H' := Aside0.mk H
    clear H
    go_wp2
    go_meet
    case rel => exact ⟨_, (true), (by first | rfl | (simp; done) | (simp [*]; done)), H', ⟨by first | omega | exact Nat.le_refl _⟩, ⟨by repeat (first | (with_reducible first | exact HB.out | apply below_alloc | apply pw_below_drewN | apply below_drew1) | exact HB.out)⟩⟩
   ·rw [if_neg c7] at H
    have c7b0 : decide (500 < (a0.size : Int)) = false := decide_eq_false c7
    have c7b1 : decide (500 < a0.size) = false := decide_eq_false (by omega)
    clear c7
    (first | rw [c7b0] | (simp only [i64_w, i32_w]; rw [c7b0]) | skip)
    have H' := Aside0.mk H
    clear H
    go_wp2
    go_meet
    case rel => exact ⟨_, (decide ((a1.size : Int) > 500)), (by first | rfl | (simp; done) | (simp [*]; done)), H', ⟨by first | omega | exact Nat.le_refl _⟩, ⟨by repeat (first | (with_reducible first | exact HB.out | apply below_alloc | apply pw_below_drewN | apply below_drew1) | exact HB.out)⟩⟩
  ·replace c6 := Bool.eq_false_iff.mpr c6
   subst c6
   have H1 : (rootcellarlaw1_LabelBack.j0 k a0 a1 false true) = some r := by rw [if_neg (show ¬ (false = true) by decide)] at H; exact H
   clear H
   have H := H1
   clear H1
   have H' := Aside0.mk H
   clear H
   go_wp2
   go_meet
   case rel => exact ⟨_, (true), (by first | rfl | (simp; done) | (simp [*]; done)), H', ⟨by first | omega | exact Nat.le_refl _⟩, ⟨by repeat (first | (with_reducible first | exact HB.out | apply below_alloc | apply pw_below_drewN | apply below_drew1) | exact HB.out)⟩⟩
 case rest =>
  clear HC4
  try clear p2
  try clear c4
  try clear c5
  try clear c6
  try clear c7
  try clear c7b0
  try clear c7b1
  obtain ⟨kq, x22_3, rfl, HA, HJ3, HB⟩ := hcut
  cases kq with
  | zero => exact absurd HA.out (by simp [rootcellarlaw1_LabelBack.j0])
  | succ kj3 =>
   have H := HA.out
   clear HA
   simp only [rootcellarlaw1_LabelBack.j0] at H
   by_cases c8 : x22_3 = true
   ·subst c8
    have H1 : (some t162) = some r := by rw [if_pos rfl] at H; exact H
    clear H
    have H := H1
    clear H1
    obtain rfl := Option.some.inj H
    go_wp2
    go_ret
    exact ⟨by first | rfl | (simp [errW_none, errW_some] <;> rfl) | (simp [*, errW_none, errW_some] <;> rfl), by repeat (first | (with_reducible first | exact HB.out | apply below_alloc | apply pw_below_drewN | apply below_drew1) | exact HB.out)⟩
   ·replace c8 := Bool.eq_false_iff.mpr c8
    subst c8
    have H1 : ((label_Quote.f a0).bind fun t163 => (rootcellarlaw1_LabelBack.l0 kj3 a0 a1 t163 0)) = some r := by rw [if_neg (show ¬ (false = true) by decide)] at H; exact H
    clear H
    have H := H1
    clear H1
    replace H := Option.bind_eq_some_iff.mp H
    obtain ⟨t163, A90, H⟩ := H
    replace H : (rootcellarlaw1_LabelBack.l0 kj3 a0 a1 t163 0) = some r := H
    have A9 := Aside0.mk A90
    clear A90
    have H' := Aside0.mk H
    clear H
    go_wp2_with (first | ((with_reducible refine gate_callee (f := 8) rfl ?_); refine goesL_ (some 25) rfl rfl Tryd.func8 (by kernel_rfl) rfl #[.string a0] rfl (by (try simp only [List.map_toArray, List.map_cons, List.map_nil]); first | done | rfl | (simp only [List.length_drop, List.length_take]; rfl) | (rw [wrap_sum2 (by assumption)]; rfl)) ?_; (with_reducible refine (label_Quote.calls a0 t163 _ A9.out (HT.below (by repeat (first | (with_reducible first | exact HB.out | apply below_alloc | apply pw_below_drewN | apply below_drew1) | exact HB.out)))).mono ?_); rintro e w10 ⟨rfl, hb⟩; refine ⟨_, rfl, ?_⟩; have n0_ := Aside0.mk (below_step (by repeat (first | (with_reducible first | exact HB.out | apply below_alloc | apply pw_below_drewN | apply below_drew1) | exact HB.out)) hb); clear HB; have HB := n0_; clear n0_; (try clear hb); (try clear hb2); (try clear hk); (try clear hi)))
    go_loopg [7] kj3 (fun kq v7 w' => ∃ (x7_2 : Int), v7 = .int .i64 x7_2 ∧ Aside0 (rootcellarlaw1_LabelBack.l0 kq a0 a1 t163 x7_2 = some r) ∧ Aside0 (kq ≤ kj3) ∧ Aside0 (Below w.heap.size w w'))
    case atStart => exact ⟨(0), (by first | rfl | (simp; done) | (simp [*]; done)), H', ⟨Nat.le_refl _⟩, ⟨by repeat (first | (with_reducible first | exact HB.out | apply below_alloc | apply pw_below_drewN | apply below_drew1) | exact HB.out)⟩⟩
    case round =>
     clear H'
     try clear p2
     try clear c4
     try clear c5
     try clear c6
     try clear c7
     try clear c7b0
     try clear c7b1
     try clear c8
     try clear p2
     obtain ⟨x7_2, rfl, HA, HK2, HB⟩ := hrel
     cases gk with
     | zero => exact absurd HA.out (by simp [rootcellarlaw1_LabelBack.l0])
     | succ k2 =>
      have H := HA.out
      clear HA
      simp only [rootcellarlaw1_LabelBack.l0] at H
      by_cases c11 : x7_2 < (t163.size : Int)
      ·rw [if_pos c11] at H
       have c11b0 : decide (x7_2 < (t163.size : Int)) = true := decide_eq_true c11
       clear c11
       by_cases c12 : 0 ≤ x7_2
       ·rw [if_pos c12] at H
        have c12b0 : decide (0 ≤ x7_2) = true := decide_eq_true c12
        clear c12
        by_cases c14 : (bt t163 x7_2) < 33
        ·rw [if_pos c14] at H
         have c14b0 : decide ((bt t163 x7_2) < 33) = true := decide_eq_true c14
         clear c14
         obtain rfl := Option.some.inj H
         have p13 : 0 ≤ (x7_2 : Int) := of_decide_eq_true (by first | (with_reducible assumption) | assumption)
         have q13 : x7_2 < (t163.size : Int) := of_decide_eq_true (by first | (with_reducible assumption) | assumption)
         have hx13 := bt_at t163 x7_2
         replace p13 := eq_true p13
         replace q13 := eq_true q13
         go_wp2
         go_ret
         exact ⟨by first | rfl | (simp [errW_none, errW_some] <;> rfl) | (simp [*, errW_none, errW_some] <;> rfl), by repeat (first | (with_reducible first | exact HB.out | apply below_alloc | apply pw_below_drewN | apply below_drew1) | exact HB.out)⟩
        ·rw [if_neg c14] at H
         have c14b0 : decide ((bt t163 x7_2) < 33) = false := decide_eq_false c14
         clear c14
         by_cases c16 : (bt t163 x7_2) > 126
         ·rw [if_pos c16] at H
          have c16b0 : decide (126 < (bt t163 x7_2)) = true := decide_eq_true c16
          clear c16
          obtain rfl := Option.some.inj H
          have p13 : 0 ≤ (x7_2 : Int) := of_decide_eq_true (by first | (with_reducible assumption) | assumption)
          have q13 : x7_2 < (t163.size : Int) := of_decide_eq_true (by first | (with_reducible assumption) | assumption)
          have hx13 := bt_at t163 x7_2
          replace p13 := eq_true p13
          replace q13 := eq_true q13
          have p15 : 0 ≤ (x7_2 : Int) := of_decide_eq_true (by first | (with_reducible assumption) | assumption)
          have q15 : x7_2 < (t163.size : Int) := of_decide_eq_true (by first | (with_reducible assumption) | assumption)
          have hx15 := bt_at t163 x7_2
          replace p15 := eq_true p15
          replace q15 := eq_true q15
          go_wp2
          go_ret
          exact ⟨by first | rfl | (simp [errW_none, errW_some] <;> rfl) | (simp [*, errW_none, errW_some] <;> rfl), by repeat (first | (with_reducible first | exact HB.out | apply below_alloc | apply pw_below_drewN | apply below_drew1) | exact HB.out)⟩
         ·rw [if_neg c16] at H
          have c16b0 : decide (126 < (bt t163 x7_2)) = false := decide_eq_false c16
          clear c16
          have H' := Aside0.mk H
          clear H
          have p13 : 0 ≤ (x7_2 : Int) := of_decide_eq_true (by first | (with_reducible assumption) | assumption)
          have q13 : x7_2 < (t163.size : Int) := of_decide_eq_true (by first | (with_reducible assumption) | assumption)
          have hx13 := bt_at t163 x7_2
          replace p13 := eq_true p13
          replace q13 := eq_true q13
          have p15 : 0 ≤ (x7_2 : Int) := of_decide_eq_true (by first | (with_reducible assumption) | assumption)
          have q15 : x7_2 < (t163.size : Int) := of_decide_eq_true (by first | (with_reducible assumption) | assumption)
          have hx15 := bt_at t163 x7_2
          replace p15 := eq_true p15
          replace q15 := eq_true q15
          go_wp2
          go_roundg k2
          case measure => have := HJ3.out; have := HK2.out; omega
          case rel => exact ⟨(wrap64 (x7_2 + 1)), (by first | rfl | (simp; done) | (simp [*]; done)), H', ⟨by have := HJ3.out; have := HK2.out; omega⟩, ⟨by repeat (first | (with_reducible first | exact HB.out | apply below_alloc | apply pw_below_drewN | apply below_drew1) | exact HB.out)⟩⟩
       ·rw [if_neg c12] at H
        exact absurd H (by simp)
      ·rw [if_neg c11] at H
       have c11b0 : decide (x7_2 < (t163.size : Int)) = false := decide_eq_false c11
       clear c11
       replace H := Option.bind_eq_some_iff.mp H
       obtain ⟨⟨t164, t165⟩, A170, H⟩ := H
       replace H : (if t164.toList = a0.toList then (if t165 = 0 then (if t163.toList = ([] : List UInt8) then (some false) else ((label_Quote.f a1).bind fun t166 => (some ((t163.toList == t166.toList) == (a0.toList == a1.toList))))) else (some false)) else (some false)) = some r := H
       have A17 := Aside0.mk A170
       clear A170
       by_cases c18 : t164.toList = a0.toList
       ·rw [if_pos c18] at H
        have c18b0 : (t164.toList == a0.toList) = true := beq_iff_eq.mpr c18
        have c18b1 : (t164.toList != a0.toList) = false := bne_eq_false_iff_eq.mpr c18
        clear c18
        by_cases c19 : t165 = 0
        ·rw [if_pos c19] at H
         have c19b0 : (t165 == 0) = true := beq_iff_eq.mpr c19
         have c19b1 : (t165 != 0) = false := bne_eq_false_iff_eq.mpr c19
         clear c19
         by_cases c20 : t163.toList = ([] : List UInt8)
         ·rw [if_pos c20] at H
          have c20b0 : (t163.toList == ([] : List UInt8)) = true := beq_iff_eq.mpr c20
          have c20b1 : (t163.toList != ([] : List UInt8)) = false := bne_eq_false_iff_eq.mpr c20
          clear c20
          obtain rfl := Option.some.inj H
          go_wp2_with (first | ((with_reducible refine gate_callee (f := 6) rfl ?_); refine goesL_ (some 44) rfl rfl Tryd.func6 (by kernel_rfl) rfl #[.string t163] rfl (by (try simp only [List.map_toArray, List.map_cons, List.map_nil]); first | done | rfl | (simp only [List.length_drop, List.length_take]; rfl) | (rw [wrap_sum2 (by assumption)]; rfl)) ?_; (with_reducible refine (label_Unquote.calls t163 t164 t165 _ A17.out (HT.below (by repeat (first | (with_reducible first | exact HB.out | apply below_alloc | apply pw_below_drewN | apply below_drew1) | exact HB.out)))).mono ?_); rintro e w21 ⟨rfl, hb⟩; refine ⟨_, rfl, ?_⟩; have n0_ := Aside0.mk (below_step (by repeat (first | (with_reducible first | exact HB.out | apply below_alloc | apply pw_below_drewN | apply below_drew1) | exact HB.out)) hb); clear HB; have HB := n0_; clear n0_; (try clear hb); (try clear hb2); (try clear hk); (try clear hi)))
          go_ret
          exact ⟨by first | rfl | (simp [errW_none, errW_some] <;> rfl) | (simp [*, errW_none, errW_some] <;> rfl), by repeat (first | (with_reducible first | exact HB.out | apply below_alloc | apply pw_below_drewN | apply below_drew1) | exact HB.out)⟩
         ·rw [if_neg c20] at H
          have c20b0 : (t163.toList == ([] : List UInt8)) = false := beq_eq_false_iff_ne.mpr c20
          have c20b1 : (t163.toList != ([] : List UInt8)) = true := bne_iff_ne.mpr c20
          replace H := Option.bind_eq_some_iff.mp H
          obtain ⟨t166, A220, H⟩ := H
          replace H : (some ((t163.toList == t166.toList) == (a0.toList == a1.toList))) = some r := H
          have A22 := Aside0.mk A220
          clear A220
          obtain rfl := Option.some.inj H
          go_wp2_with (first | ((with_reducible refine gate_callee (f := 6) rfl ?_); refine goesL_ (some 44) rfl rfl Tryd.func6 (by kernel_rfl) rfl #[.string t163] rfl (by (try simp only [List.map_toArray, List.map_cons, List.map_nil]); first | done | rfl | (simp only [List.length_drop, List.length_take]; rfl) | (rw [wrap_sum2 (by assumption)]; rfl)) ?_; (with_reducible refine (label_Unquote.calls t163 t164 t165 _ A17.out (HT.below (by repeat (first | (with_reducible first | exact HB.out | apply below_alloc | apply pw_below_drewN | apply below_drew1) | exact HB.out)))).mono ?_); rintro e w23 ⟨rfl, hb⟩; refine ⟨_, rfl, ?_⟩; have n0_ := Aside0.mk (below_step (by repeat (first | (with_reducible first | exact HB.out | apply below_alloc | apply pw_below_drewN | apply below_drew1) | exact HB.out)) hb); clear HB; have HB := n0_; clear n0_; (try clear hb); (try clear hb2); (try clear hk); (try clear hi)) | (go_at_call 8; (with_reducible refine (label_Quote.calls a1 t166 _ A22.out (HT.below (by repeat (first | (with_reducible first | exact HB.out | apply below_alloc | apply pw_below_drewN | apply below_drew1) | exact HB.out)))).mono ?_); rintro e w24 ⟨rfl, hb⟩; have n0_ := Aside0.mk (below_step (by repeat (first | (with_reducible first | exact HB.out | apply below_alloc | apply pw_below_drewN | apply below_drew1) | exact HB.out)) hb); clear HB; have HB := n0_; clear n0_; (try clear hb); (try clear hb2); (try clear hk); (try clear hi)))
          go_ret
          exact ⟨by first | rfl | (simp [errW_none, errW_some] <;> rfl) | (simp [*, errW_none, errW_some] <;> rfl), by repeat (first | (with_reducible first | exact HB.out | apply below_alloc | apply pw_below_drewN | apply below_drew1) | exact HB.out)⟩
        ·rw [if_neg c19] at H
         have c19b0 : (t165 == 0) = false := beq_eq_false_iff_ne.mpr c19
         have c19b1 : (t165 != 0) = true := bne_iff_ne.mpr c19
         obtain rfl := Option.some.inj H
         go_wp2_with (first | ((with_reducible refine gate_callee (f := 6) rfl ?_); refine goesL_ (some 44) rfl rfl Tryd.func6 (by kernel_rfl) rfl #[.string t163] rfl (by (try simp only [List.map_toArray, List.map_cons, List.map_nil]); first | done | rfl | (simp only [List.length_drop, List.length_take]; rfl) | (rw [wrap_sum2 (by assumption)]; rfl)) ?_; (with_reducible refine (label_Unquote.calls t163 t164 t165 _ A17.out (HT.below (by repeat (first | (with_reducible first | exact HB.out | apply below_alloc | apply pw_below_drewN | apply below_drew1) | exact HB.out)))).mono ?_); rintro e w25 ⟨rfl, hb⟩; refine ⟨_, rfl, ?_⟩; have n0_ := Aside0.mk (below_step (by repeat (first | (with_reducible first | exact HB.out | apply below_alloc | apply pw_below_drewN | apply below_drew1) | exact HB.out)) hb); clear HB; have HB := n0_; clear n0_; (try clear hb); (try clear hb2); (try clear hk); (try clear hi)))
         go_ret
         exact ⟨by first | rfl | (simp [errW_none, errW_some] <;> rfl) | (simp [*, errW_none, errW_some] <;> rfl), by repeat (first | (with_reducible first | exact HB.out | apply below_alloc | apply pw_below_drewN | apply below_drew1) | exact HB.out)⟩
       ·rw [if_neg c18] at H
        have c18b0 : (t164.toList == a0.toList) = false := beq_eq_false_iff_ne.mpr c18
        have c18b1 : (t164.toList != a0.toList) = true := bne_iff_ne.mpr c18
        obtain rfl := Option.some.inj H
        go_wp2_with (first | ((with_reducible refine gate_callee (f := 6) rfl ?_); refine goesL_ (some 44) rfl rfl Tryd.func6 (by kernel_rfl) rfl #[.string t163] rfl (by (try simp only [List.map_toArray, List.map_cons, List.map_nil]); first | done | rfl | (simp only [List.length_drop, List.length_take]; rfl) | (rw [wrap_sum2 (by assumption)]; rfl)) ?_; (with_reducible refine (label_Unquote.calls t163 t164 t165 _ A17.out (HT.below (by repeat (first | (with_reducible first | exact HB.out | apply below_alloc | apply pw_below_drewN | apply below_drew1) | exact HB.out)))).mono ?_); rintro e w26 ⟨rfl, hb⟩; refine ⟨_, rfl, ?_⟩; have n0_ := Aside0.mk (below_step (by repeat (first | (with_reducible first | exact HB.out | apply below_alloc | apply pw_below_drewN | apply below_drew1) | exact HB.out)) hb); clear HB; have HB := n0_; clear n0_; (try clear hb); (try clear hb2); (try clear hk); (try clear hi)))
        go_ret
        exact ⟨by first | rfl | (simp [errW_none, errW_some] <;> rfl) | (simp [*, errW_none, errW_some] <;> rfl), by repeat (first | (with_reducible first | exact HB.out | apply below_alloc | apply pw_below_drewN | apply below_drew1) | exact HB.out)⟩


end Go.Proofs.YtcgpaopbcclbiaaDoor.Fn
end
