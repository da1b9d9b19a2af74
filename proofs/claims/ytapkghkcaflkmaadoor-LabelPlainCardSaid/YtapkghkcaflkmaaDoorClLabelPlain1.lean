-- Packed by pack.py, a program of this session, out of texts of this claim.
import Derived.Test.YtapkghkcaflkmaaDoorProg
import Derived.Below
import Derived.Deep.Draws
import Derived.Deep.AppendLies
import Derived.Maps.AppendAt
import Derived.OwnWalk
import Derived.Laws.BytesArg
import Derived.Laws.MakeOwn
import Derived.Laws.OwnMore
import Derived.Deep.OwnRows
import Derived.Tactics
import Derived.Lib.ConvBytes
import Derived.Laws.Slices
import Derived.WalkKit
import Derived.KernelRfl
import Derived.RowKit3
import Derived.Deep.LoopGhost
import Derived.Deep.QuietTactic
import Derived.BigQuiet
import Derived.WideLaws
import Derived.Deep.DeepCutAuto
import Derived.Deep.CutBlock
import Derived.Deep.RegionHeld3
import Derived.Laws.Rows
import Derived.Lib.AppendStr
import Derived.ArgAppend
import Derived.Laws.IdiomCopy
import Derived.OrdersHeld
import Derived.Laws.BitsLemmas
import Derived.RowKit
import Derived.Test.YtapkghkcaflkmaaDoorLfFold
import Derived.Test.YtapkghkcaflkmaaDoorLfQuote
import Derived.Test.YtapkghkcaflkmaaDoorLfRight
import Derived.Test.YtapkghkcaflkmaaDoorClLabelPlain0
section
-- Written by printx.py, a program of this session over the kit's print: each Go function as a plain Lean function, and that the Go code computes it.






















































namespace Go.Proofs.YtapkghkcaflkmaaDoor.Fn
open Go.RowKit Go.Proofs.YtapkghkcaflkmaaDoorW.PrintWords Go.Proofs.YtapkghkcaflkmaaDoorW.PrintLast Go.Proofs.YtapkghkcaflkmaaDoorW.PrintMore Go.Proofs.YtapkghkcaflkmaaDoor.Lf
attribute [local go_sem] max2_int min2_int max_two min_two max_three min_three max_four min_four   -- for this text's walks alone
set_option linter.unusedVariables false
set_option linter.unusedSimpArgs false



def errW : Option Int → Value
 | none => .nilIface
 | some c => .iface 0 (.int .i64 c)
theorem errW_none : errW none = .nilIface := rfl
theorem errW_some (c : Int) : errW (some c) = .iface 0 (.int .i64 c) := rfl

theorem info5 : (Tryd.prog.info? 5).map (fun i => (i.zero, i.size, i.bytes)) = some (some (.int .u8 0), 1, 1) := by kernel_rfl
-- the values' own types

end Go.Proofs.YtapkghkcaflkmaaDoor.Fn
end
section
-- Written by printx.py, a program of this session over the kit's print: each Go function as a plain Lean function, and that the Go code computes it.

namespace Go.Proofs.YtapkghkcaflkmaaDoor.Fn
open Go.RowKit Go.Proofs.YtapkghkcaflkmaaDoorW.PrintWords Go.Proofs.YtapkghkcaflkmaaDoorW.PrintLast Go.Proofs.YtapkghkcaflkmaaDoorW.PrintMore Go.Proofs.YtapkghkcaflkmaaDoor.Lf
attribute [local go_sem] max2_int min2_int max_two min_two max_three min_three max_four min_four   -- for this text's walks alone
set_option linter.unusedVariables false
set_option linter.unusedSimpArgs false

/-! ### rootcellarref1_more: function 38 -/
def rootcellarref1_more.f (a0 : ByteArray) (a1 : Int) : Option (Bool) := if a1 < (a0.size : Int) then (if 0 ≤ a1 then (if (bt a0 a1) ≥ 128 then (some (decide ((bt a0 a1) ≤ 191))) else (some false)) else (none)) else (some false)
set_option maxHeartbeats 8000000 in
set_option maxRecDepth 100000 in
theorem rootcellarref1_more.calls (a0 : ByteArray) (a1 : Int) (r : Bool) (w : World) (h : rootcellarref1_more.f a0 a1 = some r) :
  Calls Tryd.prog 38 #[.string a0, .int .i64 a1] w fun e w' => e = .returned (.bool r) ∧ Drawn0 w w' := by
 have H : (if a1 < (a0.size : Int) then (if 0 ≤ a1 then (if (bt a0 a1) ≥ 128 then (some (decide ((bt a0 a1) ≤ 191))) else (some false)) else (none)) else (some false)) = some r := h
 clear h
 by_cases c3 : a1 < (a0.size : Int)
 ·rw [if_pos c3] at H
  have c3b0 : decide (a1 < (a0.size : Int)) = true := decide_eq_true c3
  clear c3
  by_cases c4 : 0 ≤ a1
  ·rw [if_pos c4] at H
   have c4b0 : decide (0 ≤ a1) = true := decide_eq_true c4
   clear c4
   by_cases c6 : (bt a0 a1) ≥ 128
   ·rw [if_pos c6] at H
    have c6b0 : decide (128 ≤ (bt a0 a1)) = true := decide_eq_true c6
    clear c6
    obtain rfl := Option.some.inj H
    have p5 : 0 ≤ (a1 : Int) := of_decide_eq_true (by first | (with_reducible assumption) | assumption)
    have q5 : a1 < (a0.size : Int) := of_decide_eq_true (by first | (with_reducible assumption) | assumption)
    have hx5 := bt_at a0 a1
    replace p5 := eq_true p5
    replace q5 := eq_true q5
    have p7 : 0 ≤ (a1 : Int) := of_decide_eq_true (by first | (with_reducible assumption) | assumption)
    have q7 : a1 < (a0.size : Int) := of_decide_eq_true (by first | (with_reducible assumption) | assumption)
    have hx7 := bt_at a0 a1
    replace p7 := eq_true p7
    replace q7 := eq_true q7
    go_enter Tryd.func38, Tryd.ntmps38
    go_wp2
    go_ret
    exact ⟨by first | rfl | (simp; done) | (simp [*]; done), by repeat (first | exact Drawn0.refl _ | apply Drawn0.step)⟩
   ·rw [if_neg c6] at H
    have c6b0 : decide (128 ≤ (bt a0 a1)) = false := decide_eq_false c6
    clear c6
    obtain rfl := Option.some.inj H
    have p5 : 0 ≤ (a1 : Int) := of_decide_eq_true (by first | (with_reducible assumption) | assumption)
    have q5 : a1 < (a0.size : Int) := of_decide_eq_true (by first | (with_reducible assumption) | assumption)
    have hx5 := bt_at a0 a1
    replace p5 := eq_true p5
    replace q5 := eq_true q5
    go_enter Tryd.func38, Tryd.ntmps38
    go_wp2
    go_ret
    exact ⟨by first | rfl | (simp; done) | (simp [*]; done), by repeat (first | exact Drawn0.refl _ | apply Drawn0.step)⟩
  ·rw [if_neg c4] at H
   exact absurd H (by simp)
 ·rw [if_neg c3] at H
  have c3b0 : decide (a1 < (a0.size : Int)) = false := decide_eq_false c3
  clear c3
  obtain rfl := Option.some.inj H
  go_enter Tryd.func38, Tryd.ntmps38
  go_wp2
  go_ret
  exact ⟨by first | rfl | (simp; done) | (simp [*]; done), by repeat (first | exact Drawn0.refl _ | apply Drawn0.step)⟩

end Go.Proofs.YtapkghkcaflkmaaDoor.Fn
end
section
-- Written by printx.py, a program of this session over the kit's print: each Go function as a plain Lean function, and that the Go code computes it.


namespace Go.Proofs.YtapkghkcaflkmaaDoor.Fn
open Go.RowKit Go.Proofs.YtapkghkcaflkmaaDoorW.PrintWords Go.Proofs.YtapkghkcaflkmaaDoorW.PrintLast Go.Proofs.YtapkghkcaflkmaaDoorW.PrintMore Go.Proofs.YtapkghkcaflkmaaDoor.Lf
attribute [local go_sem] max2_int min2_int max_two min_two max_three min_three max_four min_four   -- for this text's walks alone
set_option linter.unusedVariables false
set_option linter.unusedSimpArgs false

/-! ### rootcellarref1_Rune: function 27 -/
mutual
def rootcellarref1_Rune.j0 : Nat → ByteArray → Int → Bool → Option (Int × Int)
 | 0, _, _, _ => none
 | k + 1, x0, x4, x22 => if x22 = true then (if 1 < (x0.size : Int) then (some (wrap64 ((wrap64 ((wrap64 ((wrap64 (x4 - 192)) * 64)) + (wrap64 (bt x0 1)))) - 128), 2)) else (none)) else (if x4 ≥ 224 then (if x4 ≤ 239 then ((rootcellarref1_more.f x0 1).bind fun t108 => (if t108 = true then ((rootcellarref1_more.f x0 2).bind fun t109 => (rootcellarref1_Rune.j1 k x0 x4 t109)) else (rootcellarref1_Rune.j1 k x0 x4 false))) else (rootcellarref1_Rune.j1 k x0 x4 false)) else (rootcellarref1_Rune.j1 k x0 x4 false))
def rootcellarref1_Rune.j1 : Nat → ByteArray → Int → Bool → Option (Int × Int)
 | 0, _, _, _ => none
 | k + 1, x0, x4, x44 => if x44 = true then (if 1 < (x0.size : Int) then (if 2 < (x0.size : Int) then (if (wrap64 ((wrap64 ((wrap64 ((wrap64 ((wrap64 (x4 - 224)) * 4096)) + (wrap64 ((wrap64 ((wrap64 (bt x0 1)) - 128)) * 64)))) + (wrap64 (bt x0 2)))) - 128)) ≥ 2048 then (if (wrap64 ((wrap64 ((wrap64 ((wrap64 ((wrap64 (x4 - 224)) * 4096)) + (wrap64 ((wrap64 ((wrap64 (bt x0 1)) - 128)) * 64)))) + (wrap64 (bt x0 2)))) - 128)) ≥ 55296 then (if ((wrap64 ((wrap64 ((wrap64 ((wrap64 ((wrap64 (x4 - 224)) * 4096)) + (wrap64 ((wrap64 ((wrap64 (bt x0 1)) - 128)) * 64)))) + (wrap64 (bt x0 2)))) - 128)) ≤ 57343) then (rootcellarref1_Rune.j2 k x0 x4) else (some (wrap64 ((wrap64 ((wrap64 ((wrap64 ((wrap64 (x4 - 224)) * 4096)) + (wrap64 ((wrap64 ((wrap64 (bt x0 1)) - 128)) * 64)))) + (wrap64 (bt x0 2)))) - 128), 3))) else (some (wrap64 ((wrap64 ((wrap64 ((wrap64 ((wrap64 (x4 - 224)) * 4096)) + (wrap64 ((wrap64 ((wrap64 (bt x0 1)) - 128)) * 64)))) + (wrap64 (bt x0 2)))) - 128), 3))) else (rootcellarref1_Rune.j2 k x0 x4)) else (none)) else (none)) else (rootcellarref1_Rune.j2 k x0 x4)
def rootcellarref1_Rune.j2 : Nat → ByteArray → Int → Option (Int × Int)
 | 0, _, _ => none
 | k + 1, x0, x4 => if x4 ≥ 240 then (if x4 ≤ 244 then ((rootcellarref1_more.f x0 1).bind fun t110 => (if t110 = true then ((rootcellarref1_more.f x0 2).bind fun t111 => (if t111 = true then ((rootcellarref1_more.f x0 3).bind fun t112 => (rootcellarref1_Rune.j3 k x0 x4 t112)) else (rootcellarref1_Rune.j3 k x0 x4 false))) else (rootcellarref1_Rune.j3 k x0 x4 false))) else (rootcellarref1_Rune.j3 k x0 x4 false)) else (rootcellarref1_Rune.j3 k x0 x4 false)
def rootcellarref1_Rune.j3 : Nat → ByteArray → Int → Bool → Option (Int × Int)
 | 0, _, _, _ => none
 | k + 1, x0, x4, x88 => if x88 = true then (if 1 < (x0.size : Int) then (if 2 < (x0.size : Int) then (if 3 < (x0.size : Int) then (if (wrap64 ((wrap64 ((wrap64 ((wrap64 ((wrap64 ((wrap64 (x4 - 240)) * 262144)) + (wrap64 ((wrap64 ((wrap64 (bt x0 1)) - 128)) * 4096)))) + (wrap64 ((wrap64 ((wrap64 (bt x0 2)) - 128)) * 64)))) + (wrap64 (bt x0 3)))) - 128)) ≥ 65536 then (if (wrap64 ((wrap64 ((wrap64 ((wrap64 ((wrap64 ((wrap64 (x4 - 240)) * 262144)) + (wrap64 ((wrap64 ((wrap64 (bt x0 1)) - 128)) * 4096)))) + (wrap64 ((wrap64 ((wrap64 (bt x0 2)) - 128)) * 64)))) + (wrap64 (bt x0 3)))) - 128)) ≤ 1114111 then (some (wrap64 ((wrap64 ((wrap64 ((wrap64 ((wrap64 ((wrap64 (x4 - 240)) * 262144)) + (wrap64 ((wrap64 ((wrap64 (bt x0 1)) - 128)) * 4096)))) + (wrap64 ((wrap64 ((wrap64 (bt x0 2)) - 128)) * 64)))) + (wrap64 (bt x0 3)))) - 128), 4)) else (some ((-1), 1))) else (some ((-1), 1))) else (none)) else (none)) else (none)) else (some ((-1), 1))
end
def rootcellarref1_Rune.f (k : Nat) (a0 : ByteArray) : Option (Int × Int) := if 0 < (a0.size : Int) then (if (wrap64 (bt a0 0)) < 128 then (some (wrap64 (bt a0 0), 1)) else (if (wrap64 (bt a0 0)) ≥ 194 then (if (wrap64 (bt a0 0)) ≤ 223 then ((rootcellarref1_more.f a0 1).bind fun t107 => (rootcellarref1_Rune.j0 k a0 (wrap64 (bt a0 0)) t107)) else (rootcellarref1_Rune.j0 k a0 (wrap64 (bt a0 0)) false)) else (rootcellarref1_Rune.j0 k a0 (wrap64 (bt a0 0)) false))) else (none)
theorem rootcellarref1_Rune.mono_l : ∀ k, (∀ y0 y1 y2, LeO (rootcellarref1_Rune.j0 k y0 y1 y2) (rootcellarref1_Rune.j0 (k + 1) y0 y1 y2)) ∧ (∀ y0 y1 y2, LeO (rootcellarref1_Rune.j1 k y0 y1 y2) (rootcellarref1_Rune.j1 (k + 1) y0 y1 y2)) ∧ (∀ y0 y1, LeO (rootcellarref1_Rune.j2 k y0 y1) (rootcellarref1_Rune.j2 (k + 1) y0 y1)) ∧ (∀ y0 y1 y2, LeO (rootcellarref1_Rune.j3 k y0 y1 y2) (rootcellarref1_Rune.j3 (k + 1) y0 y1 y2))
 | 0 => ⟨fun _ _ _ r h => by simp [rootcellarref1_Rune.j0] at h, fun _ _ _ r h => by simp [rootcellarref1_Rune.j1] at h, fun _ _ r h => by simp [rootcellarref1_Rune.j2] at h, fun _ _ _ r h => by simp [rootcellarref1_Rune.j3] at h⟩
 | k + 1 => by
  obtain ⟨ih0, ih1, ih2, ih3⟩ := rootcellarref1_Rune.mono_l k
  refine ⟨?_, ?_, ?_, ?_⟩
  ·intro y0 y1 y2
   unfold rootcellarref1_Rune.j0
   repeat' first
   | (with_reducible exact ih0 _ _ _)
   | (with_reducible exact ih1 _ _ _)
   | (with_reducible exact ih2 _ _)
   | (with_reducible exact ih3 _ _ _)
   | (with_reducible exact LeO.refl _)
   | (with_reducible exact LeO.none _)
   | (with_reducible refine LeO.ite ?_ ?_)
   | (with_reducible refine LeO.bind ?_ (fun _ => ?_))
   | exact ih0 _ _ _
   | exact ih1 _ _ _
   | exact ih2 _ _
   | exact ih3 _ _ _
   | exact LeO.none _
   | refine LeO.ite ?_ ?_
   | refine LeO.bind ?_ (fun _ => ?_)
  ·intro y0 y1 y2
   unfold rootcellarref1_Rune.j1
   repeat' first
   | (with_reducible exact ih0 _ _ _)
   | (with_reducible exact ih1 _ _ _)
   | (with_reducible exact ih2 _ _)
   | (with_reducible exact ih3 _ _ _)
   | (with_reducible exact LeO.refl _)
   | (with_reducible exact LeO.none _)
   | (with_reducible refine LeO.ite ?_ ?_)
   | (with_reducible refine LeO.bind ?_ (fun _ => ?_))
   | exact ih0 _ _ _
   | exact ih1 _ _ _
   | exact ih2 _ _
   | exact ih3 _ _ _
   | exact LeO.none _
   | refine LeO.ite ?_ ?_
   | refine LeO.bind ?_ (fun _ => ?_)
  ·intro y0 y1
   unfold rootcellarref1_Rune.j2
   repeat' first
   | (with_reducible exact ih0 _ _ _)
   | (with_reducible exact ih1 _ _ _)
   | (with_reducible exact ih2 _ _)
   | (with_reducible exact ih3 _ _ _)
   | (with_reducible exact LeO.refl _)
   | (with_reducible exact LeO.none _)
   | (with_reducible refine LeO.ite ?_ ?_)
   | (with_reducible refine LeO.bind ?_ (fun _ => ?_))
   | exact ih0 _ _ _
   | exact ih1 _ _ _
   | exact ih2 _ _
   | exact ih3 _ _ _
   | exact LeO.none _
   | refine LeO.ite ?_ ?_
   | refine LeO.bind ?_ (fun _ => ?_)
  ·intro y0 y1 y2
   unfold rootcellarref1_Rune.j3
   repeat' first
   | (with_reducible exact ih0 _ _ _)
   | (with_reducible exact ih1 _ _ _)
   | (with_reducible exact ih2 _ _)
   | (with_reducible exact ih3 _ _ _)
   | (with_reducible exact LeO.refl _)
   | (with_reducible exact LeO.none _)
   | (with_reducible refine LeO.ite ?_ ?_)
   | (with_reducible refine LeO.bind ?_ (fun _ => ?_))
   | exact ih0 _ _ _
   | exact ih1 _ _ _
   | exact ih2 _ _
   | exact ih3 _ _ _
   | exact LeO.none _
   | refine LeO.ite ?_ ?_
   | refine LeO.bind ?_ (fun _ => ?_)
theorem rootcellarref1_Rune.mono : ∀ a0 k, LeO (rootcellarref1_Rune.f k a0) (rootcellarref1_Rune.f (k + 1) a0) := by
 intro a0 k
 obtain ⟨ih0, ih1, ih2, ih3⟩ := rootcellarref1_Rune.mono_l k
 unfold rootcellarref1_Rune.f
 repeat' first
   | (with_reducible exact ih0 _ _ _)
   | (with_reducible exact ih1 _ _ _)
   | (with_reducible exact ih2 _ _)
   | (with_reducible exact ih3 _ _ _)
   | (with_reducible exact LeO.refl _)
   | (with_reducible exact LeO.none _)
   | (with_reducible refine LeO.ite ?_ ?_)
   | (with_reducible refine LeO.bind ?_ (fun _ => ?_))
   | exact ih0 _ _ _
   | exact ih1 _ _ _
   | exact ih2 _ _
   | exact ih3 _ _ _
   | exact LeO.none _
   | refine LeO.ite ?_ ?_
   | refine LeO.bind ?_ (fun _ => ?_)
set_option maxHeartbeats 8000000 in
set_option maxRecDepth 100000 in
theorem rootcellarref1_Rune.calls (k : Nat) (a0 : ByteArray) (r1 : Int) (r2 : Int) (w : World) (h : rootcellarref1_Rune.f k a0 = some (r1, r2)) :
  Calls Tryd.prog 27 #[.string a0] w fun e w' => e = .returned (.tuple #[.int .i64 r1, .int .i64 r2]) ∧ Drawn0 w w' := by
 have H : (if 0 < (a0.size : Int) then (if (wrap64 (bt a0 0)) < 128 then (some (wrap64 (bt a0 0), 1)) else (if (wrap64 (bt a0 0)) ≥ 194 then (if (wrap64 (bt a0 0)) ≤ 223 then ((rootcellarref1_more.f a0 1).bind fun t107 => (rootcellarref1_Rune.j0 k a0 (wrap64 (bt a0 0)) t107)) else (rootcellarref1_Rune.j0 k a0 (wrap64 (bt a0 0)) false)) else (rootcellarref1_Rune.j0 k a0 (wrap64 (bt a0 0)) false))) else (none)) = some (r1, r2) := h
 clear h
 by_cases c2 : 0 < (a0.size : Int)
 ·rw [if_pos c2] at H
  have c2b0 : decide (0 < (a0.size : Int)) = true := decide_eq_true c2
  have c2b1 : decide (0 < a0.size) = true := decide_eq_true (by omega)
  clear c2
  by_cases c4 : (wrap64 (bt a0 0)) < 128
  ·rw [if_pos c4] at H
   have c4b0 : decide ((wrap64 (bt a0 0)) < 128) = true := decide_eq_true c4
   clear c4
   simp only [Option.some.injEq, Prod.mk.injEq] at H
   obtain ⟨rfl, rfl⟩ := H
   have p3 : 0 ≤ (0 : Int) := (by omega)
   have q3 : 0 < a0.size := (by have : (0 : Int) < (a0.size : Int) := of_decide_eq_true (by first | (with_reducible assumption) | assumption); omega)
   have hx3 : ∀ h : 0 < a0.size, ((a0[0]'h).toNat : Int) = bt a0 0 := bt_at a0 0
   clear p3
   have qi3 : (0 < (a0.size : Int)) = True := eq_true (of_decide_eq_true (by first | (with_reducible assumption) | assumption))
   replace q3 := eq_true q3
   go_enter Tryd.func27, Tryd.ntmps27
   go_wp2
   repeat (go_quiet (fail); try go_wp2)
   go_ret2
   exact ⟨by first | rfl | (simp; done) | (simp [*]; done), by repeat (first | exact Drawn0.refl _ | apply Drawn0.step)⟩
  ·rw [if_neg c4] at H
   have c4b0 : decide ((wrap64 (bt a0 0)) < 128) = false := decide_eq_false c4
   clear c4
   have HC5 := Aside0.mk H
   clear H
   have p3 : 0 ≤ (0 : Int) := (by omega)
   have q3 : 0 < a0.size := (by have : (0 : Int) < (a0.size : Int) := of_decide_eq_true (by first | (with_reducible assumption) | assumption); omega)
   have hx3 : ∀ h : 0 < a0.size, ((a0[0]'h).toNat : Int) = bt a0 0 := bt_at a0 0
   clear p3
   have qi3 : (0 < (a0.size : Int)) = True := eq_true (of_decide_eq_true (by first | (with_reducible assumption) | assumption))
   replace q3 := eq_true q3
   go_enter Tryd.func27, Tryd.ntmps27
   go_upto_region 4 with (fail)
   repeat (go_quiet (fail); go_upto_region 4 with (fail))
   go_cut [22] (fun v22 wc => ∃ (kq : Nat) (x22_4 : Bool), v22 = .bool x22_4 ∧ Aside0 (rootcellarref1_Rune.j0 kq a0 (wrap64 (bt a0 0)) x22_4 = some (r1, r2)) ∧ Aside0 (kq ≤ k) ∧ Drawn0 w wc)
   case first =>
    have H := HC5.out
    clear HC5
    by_cases c6 : (wrap64 (bt a0 0)) ≥ 194
    ·rw [if_pos c6] at H
     have c6b0 : decide (194 ≤ (wrap64 (bt a0 0))) = true := decide_eq_true c6
     clear c6
     (first | rw [c6b0] | (simp only [i64_w, i32_w]; rw [c6b0]) | skip)
     by_cases c7 : (wrap64 (bt a0 0)) ≤ 223
     ·rw [if_pos c7] at H
      have c7b0 : decide ((wrap64 (bt a0 0)) ≤ 223) = true := decide_eq_true c7
      clear c7
      replace H := Option.bind_eq_some_iff.mp H
      obtain ⟨t107, A80, H⟩ := H
      replace H : (rootcellarref1_Rune.j0 k a0 (wrap64 (bt a0 0)) t107) = some (r1, r2) := H
      have A8 := Aside0.mk A80
      clear A80
      have H' := Aside0.mk H
      clear H
      go_wp2_with (first | (go_at_call 38; (with_reducible refine (rootcellarref1_more.calls a0 1 t107 _ A8.out).mono ?_); rintro e w' ⟨rfl, ⟨nd, rfl⟩⟩; (try first | exact ⟨rfl, _, World.drewN_drewN _ _ _⟩ | exact ⟨rfl, _, Eq.trans (World.drewN_drewN _ _ _) (congrArg (World.drewN _) (Nat.add_assoc _ _ _))⟩)))
      repeat (go_quiet (first | (go_at_call 38; (with_reducible refine (rootcellarref1_more.calls a0 1 t107 _ A8.out).mono ?_); rintro e w' ⟨rfl, ⟨nd, rfl⟩⟩; (try first | exact ⟨rfl, _, World.drewN_drewN _ _ _⟩ | exact ⟨rfl, _, Eq.trans (World.drewN_drewN _ _ _) (congrArg (World.drewN _) (Nat.add_assoc _ _ _))⟩))); try go_wp2_with (first | (go_at_call 38; (with_reducible refine (rootcellarref1_more.calls a0 1 t107 _ A8.out).mono ?_); rintro e w' ⟨rfl, ⟨nd, rfl⟩⟩; (try first | exact ⟨rfl, _, World.drewN_drewN _ _ _⟩ | exact ⟨rfl, _, Eq.trans (World.drewN_drewN _ _ _) (congrArg (World.drewN _) (Nat.add_assoc _ _ _))⟩))))
      go_meet
      case rel => exact ⟨_, (t107), (by first | rfl | (simp; done) | (simp [*]; done)), H', ⟨by first | omega | exact Nat.le_refl _⟩, by repeat (first | exact Drawn0.refl _ | apply Drawn0.step)⟩
     ·rw [if_neg c7] at H
      have c7b0 : decide ((wrap64 (bt a0 0)) ≤ 223) = false := decide_eq_false c7
      clear c7
      have H' := Aside0.mk H
      clear H
      go_wp2
      repeat (go_quiet (fail); try go_wp2)
      go_meet
      case rel => exact ⟨_, (false), (by first | rfl | (simp; done) | (simp [*]; done)), H', ⟨by first | omega | exact Nat.le_refl _⟩, by repeat (first | exact Drawn0.refl _ | apply Drawn0.step)⟩
    ·rw [if_neg c6] at H
     have c6b0 : decide (194 ≤ (wrap64 (bt a0 0))) = false := decide_eq_false c6
     clear c6
     (first | rw [c6b0] | (simp only [i64_w, i32_w]; rw [c6b0]) | skip)
     have H' := Aside0.mk H
     clear H
     go_wp2
     repeat (go_quiet (fail); try go_wp2)
     go_meet
     case rel => exact ⟨_, (false), (by first | rfl | (simp; done) | (simp [*]; done)), H', ⟨by first | omega | exact Nat.le_refl _⟩, by repeat (first | exact Drawn0.refl _ | apply Drawn0.step)⟩
   case rest =>
    clear HC5
    try clear c2
    try clear c2b0
    try clear c2b1
    try clear p2
    try clear p3
    try clear q3
    try clear hx3
    try clear qi3
    try clear c4
    try clear c4b0
    try clear c6
    try clear c6b0
    try clear p6
    try clear c7
    try clear c7b0
    try clear p3
    try clear q3
    obtain ⟨kq, x22_4, rfl, HA, HJ4, ⟨mc4, rfl⟩⟩ := hcut
    cases kq with
    | zero => exact absurd HA.out (by simp [rootcellarref1_Rune.j0])
    | succ kj4 =>
     have H := HA.out
     clear HA
     simp only [rootcellarref1_Rune.j0] at H
     by_cases c9 : x22_4 = true
     ·subst c9
      have H1 : (if 1 < (a0.size : Int) then (some (wrap64 ((wrap64 ((wrap64 ((wrap64 ((wrap64 (bt a0 0)) - 192)) * 64)) + (wrap64 (bt a0 1)))) - 128), 2)) else (none)) = some (r1, r2) := by rw [if_pos rfl] at H; exact H
      clear H
      have H := H1
      clear H1
      by_cases c10 : 1 < (a0.size : Int)
      ·rw [if_pos c10] at H
       have c10b0 : decide (1 < (a0.size : Int)) = true := decide_eq_true c10
       have c10b1 : decide (1 < a0.size) = true := decide_eq_true (by omega)
       clear c10
       simp only [Option.some.injEq, Prod.mk.injEq] at H
       obtain ⟨rfl, rfl⟩ := H
       have p11 : 0 ≤ (1 : Int) := (by omega)
       have q11 : 1 < a0.size := (by have : (1 : Int) < (a0.size : Int) := of_decide_eq_true (by first | (with_reducible assumption) | assumption); omega)
       have hx11 : ∀ h : 1 < a0.size, ((a0[1]'h).toNat : Int) = bt a0 1 := bt_at a0 1
       clear p11
       have qi11 : (1 < (a0.size : Int)) = True := eq_true (of_decide_eq_true (by first | (with_reducible assumption) | assumption))
       replace q11 := eq_true q11
       go_wp2
       repeat (go_quiet (fail); try go_wp2)
       go_ret2
       exact ⟨by first | rfl | (simp; done) | (simp [*]; done), by repeat (first | exact Drawn0.refl _ | apply Drawn0.step)⟩
      ·rw [if_neg c10] at H
       exact absurd H (by simp)
     ·replace c9 := Bool.eq_false_iff.mpr c9
      subst c9
      have H1 : (if (wrap64 (bt a0 0)) ≥ 224 then (if (wrap64 (bt a0 0)) ≤ 239 then ((rootcellarref1_more.f a0 1).bind fun t108 => (if t108 = true then ((rootcellarref1_more.f a0 2).bind fun t109 => (rootcellarref1_Rune.j1 kj4 a0 (wrap64 (bt a0 0)) t109)) else (rootcellarref1_Rune.j1 kj4 a0 (wrap64 (bt a0 0)) false))) else (rootcellarref1_Rune.j1 kj4 a0 (wrap64 (bt a0 0)) false)) else (rootcellarref1_Rune.j1 kj4 a0 (wrap64 (bt a0 0)) false)) = some (r1, r2) := by rw [if_neg (show ¬ (false = true) by decide)] at H; exact H
      clear H
      have H := H1
      clear H1
      have HC12 := Aside0.mk H
      clear H
      go_upto_region 6 with (fail)
      repeat (go_quiet (fail); go_upto_region 6 with (fail))
      go_cut [44] (fun v44 wc => ∃ (kq : Nat) (x44_11 : Bool), v44 = .bool x44_11 ∧ Aside0 (rootcellarref1_Rune.j1 kq a0 (wrap64 (bt a0 0)) x44_11 = some (r1, r2)) ∧ Aside0 (kq ≤ kj4) ∧ Drawn0 w wc)
      case first =>
       have H := HC12.out
       clear HC12
       by_cases c13 : (wrap64 (bt a0 0)) ≥ 224
       ·rw [if_pos c13] at H
        have c13b0 : decide (224 ≤ (wrap64 (bt a0 0))) = true := decide_eq_true c13
        clear c13
        (first | rw [c13b0] | (simp only [i64_w, i32_w]; rw [c13b0]) | skip)
        by_cases c14 : (wrap64 (bt a0 0)) ≤ 239
        ·rw [if_pos c14] at H
         have c14b0 : decide ((wrap64 (bt a0 0)) ≤ 239) = true := decide_eq_true c14
         clear c14
         replace H := Option.bind_eq_some_iff.mp H
         obtain ⟨t108, A150, H⟩ := H
         replace H : (if t108 = true then ((rootcellarref1_more.f a0 2).bind fun t109 => (rootcellarref1_Rune.j1 kj4 a0 (wrap64 (bt a0 0)) t109)) else (rootcellarref1_Rune.j1 kj4 a0 (wrap64 (bt a0 0)) false)) = some (r1, r2) := H
         have A15 := Aside0.mk A150
         clear A150
         by_cases c16 : t108 = true
         ·subst c16
          have H1 : ((rootcellarref1_more.f a0 2).bind fun t109 => (rootcellarref1_Rune.j1 kj4 a0 (wrap64 (bt a0 0)) t109)) = some (r1, r2) := by rw [if_pos rfl] at H; exact H
          clear H
          have H := H1
          clear H1
          replace H := Option.bind_eq_some_iff.mp H
          obtain ⟨t109, A170, H⟩ := H
          replace H : (rootcellarref1_Rune.j1 kj4 a0 (wrap64 (bt a0 0)) t109) = some (r1, r2) := H
          have A17 := Aside0.mk A170
          clear A170
          have H' := Aside0.mk H
          clear H
          go_wp2_with (first | (go_at_call 38; (with_reducible refine (rootcellarref1_more.calls a0 1 true _ A15.out).mono ?_); rintro e w' ⟨rfl, ⟨nd, rfl⟩⟩; (try first | exact ⟨rfl, _, World.drewN_drewN _ _ _⟩ | exact ⟨rfl, _, Eq.trans (World.drewN_drewN _ _ _) (congrArg (World.drewN _) (Nat.add_assoc _ _ _))⟩)) | (go_at_call 38; (with_reducible refine (rootcellarref1_more.calls a0 2 t109 _ A17.out).mono ?_); rintro e w' ⟨rfl, ⟨nd, rfl⟩⟩; (try first | exact ⟨rfl, _, World.drewN_drewN _ _ _⟩ | exact ⟨rfl, _, Eq.trans (World.drewN_drewN _ _ _) (congrArg (World.drewN _) (Nat.add_assoc _ _ _))⟩)))
          repeat (go_quiet (first | (go_at_call 38; (with_reducible refine (rootcellarref1_more.calls a0 1 true _ A15.out).mono ?_); rintro e w' ⟨rfl, ⟨nd, rfl⟩⟩; (try first | exact ⟨rfl, _, World.drewN_drewN _ _ _⟩ | exact ⟨rfl, _, Eq.trans (World.drewN_drewN _ _ _) (congrArg (World.drewN _) (Nat.add_assoc _ _ _))⟩)) | (go_at_call 38; (with_reducible refine (rootcellarref1_more.calls a0 2 t109 _ A17.out).mono ?_); rintro e w' ⟨rfl, ⟨nd, rfl⟩⟩; (try first | exact ⟨rfl, _, World.drewN_drewN _ _ _⟩ | exact ⟨rfl, _, Eq.trans (World.drewN_drewN _ _ _) (congrArg (World.drewN _) (Nat.add_assoc _ _ _))⟩))); try go_wp2_with (first | (go_at_call 38; (with_reducible refine (rootcellarref1_more.calls a0 1 true _ A15.out).mono ?_); rintro e w' ⟨rfl, ⟨nd, rfl⟩⟩; (try first | exact ⟨rfl, _, World.drewN_drewN _ _ _⟩ | exact ⟨rfl, _, Eq.trans (World.drewN_drewN _ _ _) (congrArg (World.drewN _) (Nat.add_assoc _ _ _))⟩)) | (go_at_call 38; (with_reducible refine (rootcellarref1_more.calls a0 2 t109 _ A17.out).mono ?_); rintro e w' ⟨rfl, ⟨nd, rfl⟩⟩; (try first | exact ⟨rfl, _, World.drewN_drewN _ _ _⟩ | exact ⟨rfl, _, Eq.trans (World.drewN_drewN _ _ _) (congrArg (World.drewN _) (Nat.add_assoc _ _ _))⟩))))
          go_meet
          case rel => exact ⟨_, (t109), (by first | rfl | (simp; done) | (simp [*]; done)), H', ⟨by have := HJ4.out; first | omega | exact Nat.le_refl _⟩, by repeat (first | exact Drawn0.refl _ | apply Drawn0.step)⟩
         ·replace c16 := Bool.eq_false_iff.mpr c16
          subst c16
          have H1 : (rootcellarref1_Rune.j1 kj4 a0 (wrap64 (bt a0 0)) false) = some (r1, r2) := by rw [if_neg (show ¬ (false = true) by decide)] at H; exact H
          clear H
          have H := H1
          clear H1
          have H' := Aside0.mk H
          clear H
          go_wp2_with (first | (go_at_call 38; (with_reducible refine (rootcellarref1_more.calls a0 1 false _ A15.out).mono ?_); rintro e w' ⟨rfl, ⟨nd, rfl⟩⟩; (try first | exact ⟨rfl, _, World.drewN_drewN _ _ _⟩ | exact ⟨rfl, _, Eq.trans (World.drewN_drewN _ _ _) (congrArg (World.drewN _) (Nat.add_assoc _ _ _))⟩)))
          repeat (go_quiet (first | (go_at_call 38; (with_reducible refine (rootcellarref1_more.calls a0 1 false _ A15.out).mono ?_); rintro e w' ⟨rfl, ⟨nd, rfl⟩⟩; (try first | exact ⟨rfl, _, World.drewN_drewN _ _ _⟩ | exact ⟨rfl, _, Eq.trans (World.drewN_drewN _ _ _) (congrArg (World.drewN _) (Nat.add_assoc _ _ _))⟩))); try go_wp2_with (first | (go_at_call 38; (with_reducible refine (rootcellarref1_more.calls a0 1 false _ A15.out).mono ?_); rintro e w' ⟨rfl, ⟨nd, rfl⟩⟩; (try first | exact ⟨rfl, _, World.drewN_drewN _ _ _⟩ | exact ⟨rfl, _, Eq.trans (World.drewN_drewN _ _ _) (congrArg (World.drewN _) (Nat.add_assoc _ _ _))⟩))))
          go_meet
          case rel => exact ⟨_, (false), (by first | rfl | (simp; done) | (simp [*]; done)), H', ⟨by have := HJ4.out; first | omega | exact Nat.le_refl _⟩, by repeat (first | exact Drawn0.refl _ | apply Drawn0.step)⟩
        ·rw [if_neg c14] at H
         have c14b0 : decide ((wrap64 (bt a0 0)) ≤ 239) = false := decide_eq_false c14
         clear c14
         have H' := Aside0.mk H
         clear H
         go_wp2
         repeat (go_quiet (fail); try go_wp2)
         go_meet
         case rel => exact ⟨_, (false), (by first | rfl | (simp; done) | (simp [*]; done)), H', ⟨by have := HJ4.out; first | omega | exact Nat.le_refl _⟩, by repeat (first | exact Drawn0.refl _ | apply Drawn0.step)⟩
       ·rw [if_neg c13] at H
        have c13b0 : decide (224 ≤ (wrap64 (bt a0 0))) = false := decide_eq_false c13
        clear c13
        (first | rw [c13b0] | (simp only [i64_w, i32_w]; rw [c13b0]) | skip)
        have H' := Aside0.mk H
        clear H
        go_wp2
        repeat (go_quiet (fail); try go_wp2)
        go_meet
        case rel => exact ⟨_, (false), (by first | rfl | (simp; done) | (simp [*]; done)), H', ⟨by have := HJ4.out; first | omega | exact Nat.le_refl _⟩, by repeat (first | exact Drawn0.refl _ | apply Drawn0.step)⟩
      case rest =>
       clear HC12
       try clear c1
       try clear p1
       try clear q1
       try clear hx1
       try clear qi1
       try clear c2
       try clear c2b0
       try clear c2b1
       try clear p2
       try clear p3
       try clear q3
       try clear hx3
       try clear qi3
       try clear c4
       try clear c4b0
       try clear c6
       try clear c6b0
       try clear p6
       try clear c7
       try clear c7b0
       try clear c9
       try clear c10
       try clear c10b0
       try clear c10b1
       try clear p11
       try clear q11
       try clear hx11
       try clear qi11
       try clear c13
       try clear c13b0
       try clear c14
       try clear c14b0
       try clear c16
       try clear p11
       try clear p2
       try clear p3
       try clear p6
       try clear q11
       try clear q3
       obtain ⟨kq, x44_11, rfl, HA, HJ11, ⟨mc11, rfl⟩⟩ := hcut
       cases kq with
       | zero => exact absurd HA.out (by simp [rootcellarref1_Rune.j1])
       | succ kj11 =>
        have H := HA.out
        clear HA
        simp only [rootcellarref1_Rune.j1] at H
        have HC18 := Aside0.mk H
        clear H
        go_upto_if 44 with (fail)
        repeat (go_quiet (fail); go_upto_if 44 with (fail))
        go_cut [] (fun wc => ∃ (kq : Nat), Aside0 (rootcellarref1_Rune.j2 kq a0 (wrap64 (bt a0 0)) = some (r1, r2)) ∧ Aside0 (kq ≤ kj11) ∧ Drawn0 w wc)
        case first =>
         have H := HC18.out
         clear HC18
         by_cases c19 : x44_11 = true
         ·subst c19
          have H1 : (if 1 < (a0.size : Int) then (if 2 < (a0.size : Int) then (if (wrap64 ((wrap64 ((wrap64 ((wrap64 ((wrap64 ((wrap64 (bt a0 0)) - 224)) * 4096)) + (wrap64 ((wrap64 ((wrap64 (bt a0 1)) - 128)) * 64)))) + (wrap64 (bt a0 2)))) - 128)) ≥ 2048 then (if (wrap64 ((wrap64 ((wrap64 ((wrap64 ((wrap64 ((wrap64 (bt a0 0)) - 224)) * 4096)) + (wrap64 ((wrap64 ((wrap64 (bt a0 1)) - 128)) * 64)))) + (wrap64 (bt a0 2)))) - 128)) ≥ 55296 then (if ((wrap64 ((wrap64 ((wrap64 ((wrap64 ((wrap64 ((wrap64 (bt a0 0)) - 224)) * 4096)) + (wrap64 ((wrap64 ((wrap64 (bt a0 1)) - 128)) * 64)))) + (wrap64 (bt a0 2)))) - 128)) ≤ 57343) then (rootcellarref1_Rune.j2 kj11 a0 (wrap64 (bt a0 0))) else (some (wrap64 ((wrap64 ((wrap64 ((wrap64 ((wrap64 ((wrap64 (bt a0 0)) - 224)) * 4096)) + (wrap64 ((wrap64 ((wrap64 (bt a0 1)) - 128)) * 64)))) + (wrap64 (bt a0 2)))) - 128), 3))) else (some (wrap64 ((wrap64 ((wrap64 ((wrap64 ((wrap64 ((wrap64 (bt a0 0)) - 224)) * 4096)) + (wrap64 ((wrap64 ((wrap64 (bt a0 1)) - 128)) * 64)))) + (wrap64 (bt a0 2)))) - 128), 3))) else (rootcellarref1_Rune.j2 kj11 a0 (wrap64 (bt a0 0)))) else (none)) else (none)) = some (r1, r2) := by rw [if_pos rfl] at H; exact H
          clear H
          have H := H1
          clear H1
          by_cases c20 : 1 < (a0.size : Int)
          ·rw [if_pos c20] at H
           have c20b0 : decide (1 < (a0.size : Int)) = true := decide_eq_true c20
           have c20b1 : decide (1 < a0.size) = true := decide_eq_true (by omega)
           clear c20
           (first | rw [c20b0] | (simp only [i64_w, i32_w]; rw [c20b0]) | skip)
           by_cases c22 : 2 < (a0.size : Int)
           ·rw [if_pos c22] at H
            have c22b0 : decide (2 < (a0.size : Int)) = true := decide_eq_true c22
            have c22b1 : decide (2 < a0.size) = true := decide_eq_true (by omega)
            clear c22
            by_cases c24 : (wrap64 ((wrap64 ((wrap64 ((wrap64 ((wrap64 ((wrap64 (bt a0 0)) - 224)) * 4096)) + (wrap64 ((wrap64 ((wrap64 (bt a0 1)) - 128)) * 64)))) + (wrap64 (bt a0 2)))) - 128)) ≥ 2048
            ·rw [if_pos c24] at H
             have c24b0 : decide (2048 ≤ (wrap64 ((wrap64 ((wrap64 ((wrap64 ((wrap64 ((wrap64 (bt a0 0)) - 224)) * 4096)) + (wrap64 ((wrap64 ((wrap64 (bt a0 1)) - 128)) * 64)))) + (wrap64 (bt a0 2)))) - 128))) = true := decide_eq_true c24
             clear c24
             by_cases c25 : (wrap64 ((wrap64 ((wrap64 ((wrap64 ((wrap64 ((wrap64 (bt a0 0)) - 224)) * 4096)) + (wrap64 ((wrap64 ((wrap64 (bt a0 1)) - 128)) * 64)))) + (wrap64 (bt a0 2)))) - 128)) ≥ 55296
             ·rw [if_pos c25] at H
              have c25b0 : decide (55296 ≤ (wrap64 ((wrap64 ((wrap64 ((wrap64 ((wrap64 ((wrap64 (bt a0 0)) - 224)) * 4096)) + (wrap64 ((wrap64 ((wrap64 (bt a0 1)) - 128)) * 64)))) + (wrap64 (bt a0 2)))) - 128))) = true := decide_eq_true c25
              clear c25
              by_cases c26 : ((wrap64 ((wrap64 ((wrap64 ((wrap64 ((wrap64 ((wrap64 (bt a0 0)) - 224)) * 4096)) + (wrap64 ((wrap64 ((wrap64 (bt a0 1)) - 128)) * 64)))) + (wrap64 (bt a0 2)))) - 128)) ≤ 57343)
              ·rw [if_pos c26] at H
               have c26b0 : decide ((wrap64 ((wrap64 ((wrap64 ((wrap64 ((wrap64 ((wrap64 (bt a0 0)) - 224)) * 4096)) + (wrap64 ((wrap64 ((wrap64 (bt a0 1)) - 128)) * 64)))) + (wrap64 (bt a0 2)))) - 128)) ≤ 57343) = true := decide_eq_true c26
               clear c26
               have H' := Aside0.mk H
               clear H
               have p21 : 0 ≤ (1 : Int) := (by omega)
               have q21 : 1 < a0.size := (by have : (1 : Int) < (a0.size : Int) := of_decide_eq_true (by first | (with_reducible assumption) | assumption); omega)
               have hx21 : ∀ h : 1 < a0.size, ((a0[1]'h).toNat : Int) = bt a0 1 := bt_at a0 1
               clear p21
               have qi21 : (1 < (a0.size : Int)) = True := eq_true (of_decide_eq_true (by first | (with_reducible assumption) | assumption))
               replace q21 := eq_true q21
               have p23 : 0 ≤ (2 : Int) := (by omega)
               have q23 : 2 < a0.size := (by have : (2 : Int) < (a0.size : Int) := of_decide_eq_true (by first | (with_reducible assumption) | assumption); omega)
               have hx23 : ∀ h : 2 < a0.size, ((a0[2]'h).toNat : Int) = bt a0 2 := bt_at a0 2
               clear p23
               have qi23 : (2 < (a0.size : Int)) = True := eq_true (of_decide_eq_true (by first | (with_reducible assumption) | assumption))
               replace q23 := eq_true q23
               go_wp2
               repeat (go_quiet (fail); try go_wp2)
               go_meet
               case rel => exact ⟨_, H', ⟨by have := HJ4.out; have := HJ11.out; first | omega | exact Nat.le_refl _⟩, by repeat (first | exact Drawn0.refl _ | apply Drawn0.step)⟩
              ·rw [if_neg c26] at H
               have c26b0 : decide ((wrap64 ((wrap64 ((wrap64 ((wrap64 ((wrap64 ((wrap64 (bt a0 0)) - 224)) * 4096)) + (wrap64 ((wrap64 ((wrap64 (bt a0 1)) - 128)) * 64)))) + (wrap64 (bt a0 2)))) - 128)) ≤ 57343) = false := decide_eq_false c26
               clear c26
               simp only [Option.some.injEq, Prod.mk.injEq] at H
               obtain ⟨rfl, rfl⟩ := H
               have p21 : 0 ≤ (1 : Int) := (by omega)
               have q21 : 1 < a0.size := (by have : (1 : Int) < (a0.size : Int) := of_decide_eq_true (by first | (with_reducible assumption) | assumption); omega)
               have hx21 : ∀ h : 1 < a0.size, ((a0[1]'h).toNat : Int) = bt a0 1 := bt_at a0 1
               clear p21
               have qi21 : (1 < (a0.size : Int)) = True := eq_true (of_decide_eq_true (by first | (with_reducible assumption) | assumption))
               replace q21 := eq_true q21
               have p23 : 0 ≤ (2 : Int) := (by omega)
               have q23 : 2 < a0.size := (by have : (2 : Int) < (a0.size : Int) := of_decide_eq_true (by first | (with_reducible assumption) | assumption); omega)
               have hx23 : ∀ h : 2 < a0.size, ((a0[2]'h).toNat : Int) = bt a0 2 := bt_at a0 2
               clear p23
               have qi23 : (2 < (a0.size : Int)) = True := eq_true (of_decide_eq_true (by first | (with_reducible assumption) | assumption))
               replace q23 := eq_true q23
               go_wp2
               repeat (go_quiet (fail); try go_wp2)
               go_ret2
               exact ⟨by first | rfl | (simp; done) | (simp [*]; done), by repeat (first | exact Drawn0.refl _ | apply Drawn0.step)⟩
             ·rw [if_neg c25] at H
              have c25b0 : decide (55296 ≤ (wrap64 ((wrap64 ((wrap64 ((wrap64 ((wrap64 ((wrap64 (bt a0 0)) - 224)) * 4096)) + (wrap64 ((wrap64 ((wrap64 (bt a0 1)) - 128)) * 64)))) + (wrap64 (bt a0 2)))) - 128))) = false := decide_eq_false c25
              clear c25
              simp only [Option.some.injEq, Prod.mk.injEq] at H
              obtain ⟨rfl, rfl⟩ := H
              have p21 : 0 ≤ (1 : Int) := (by omega)
              have q21 : 1 < a0.size := (by have : (1 : Int) < (a0.size : Int) := of_decide_eq_true (by first | (with_reducible assumption) | assumption); omega)
              have hx21 : ∀ h : 1 < a0.size, ((a0[1]'h).toNat : Int) = bt a0 1 := bt_at a0 1
              clear p21
              have qi21 : (1 < (a0.size : Int)) = True := eq_true (of_decide_eq_true (by first | (with_reducible assumption) | assumption))
              replace q21 := eq_true q21
              have p23 : 0 ≤ (2 : Int) := (by omega)
              have q23 : 2 < a0.size := (by have : (2 : Int) < (a0.size : Int) := of_decide_eq_true (by first | (with_reducible assumption) | assumption); omega)
              have hx23 : ∀ h : 2 < a0.size, ((a0[2]'h).toNat : Int) = bt a0 2 := bt_at a0 2
              clear p23
              have qi23 : (2 < (a0.size : Int)) = True := eq_true (of_decide_eq_true (by first | (with_reducible assumption) | assumption))
              replace q23 := eq_true q23
              go_wp2
              repeat (go_quiet (fail); try go_wp2)
              go_ret2
              exact ⟨by first | rfl | (simp; done) | (simp [*]; done), by repeat (first | exact Drawn0.refl _ | apply Drawn0.step)⟩
            ·rw [if_neg c24] at H
             have c24b0 : decide (2048 ≤ (wrap64 ((wrap64 ((wrap64 ((wrap64 ((wrap64 ((wrap64 (bt a0 0)) - 224)) * 4096)) + (wrap64 ((wrap64 ((wrap64 (bt a0 1)) - 128)) * 64)))) + (wrap64 (bt a0 2)))) - 128))) = false := decide_eq_false c24
             clear c24
             have H' := Aside0.mk H
             clear H
             have p21 : 0 ≤ (1 : Int) := (by omega)
             have q21 : 1 < a0.size := (by have : (1 : Int) < (a0.size : Int) := of_decide_eq_true (by first | (with_reducible assumption) | assumption); omega)
             have hx21 : ∀ h : 1 < a0.size, ((a0[1]'h).toNat : Int) = bt a0 1 := bt_at a0 1
             clear p21
             have qi21 : (1 < (a0.size : Int)) = True := eq_true (of_decide_eq_true (by first | (with_reducible assumption) | assumption))
             replace q21 := eq_true q21
             have p23 : 0 ≤ (2 : Int) := (by omega)
             have q23 : 2 < a0.size := (by have : (2 : Int) < (a0.size : Int) := of_decide_eq_true (by first | (with_reducible assumption) | assumption); omega)
             have hx23 : ∀ h : 2 < a0.size, ((a0[2]'h).toNat : Int) = bt a0 2 := bt_at a0 2
             clear p23
             have qi23 : (2 < (a0.size : Int)) = True := eq_true (of_decide_eq_true (by first | (with_reducible assumption) | assumption))
             replace q23 := eq_true q23
             go_wp2
             repeat (go_quiet (fail); try go_wp2)
             go_meet
             case rel => exact ⟨_, H', ⟨by have := HJ4.out; have := HJ11.out; first | omega | exact Nat.le_refl _⟩, by repeat (first | exact Drawn0.refl _ | apply Drawn0.step)⟩
           ·rw [if_neg c22] at H
            exact absurd H (by simp)
          ·rw [if_neg c20] at H
           exact absurd H (by simp)
         ·replace c19 := Bool.eq_false_iff.mpr c19
          subst c19
          have H1 : (rootcellarref1_Rune.j2 kj11 a0 (wrap64 (bt a0 0))) = some (r1, r2) := by rw [if_neg (show ¬ (false = true) by decide)] at H; exact H
          clear H
          have H := H1
          clear H1
          have H' := Aside0.mk H
          clear H
          go_wp2
          repeat (go_quiet (fail); try go_wp2)
          go_meet
          case rel => exact ⟨_, H', ⟨by have := HJ4.out; have := HJ11.out; first | omega | exact Nat.le_refl _⟩, by repeat (first | exact Drawn0.refl _ | apply Drawn0.step)⟩
        case rest =>
         clear HC18
         try clear c1
         try clear p1
         try clear q1
         try clear hx1
         try clear qi1
         try clear c2
         try clear c2b0
         try clear c2b1
         try clear p2
         try clear q2
         try clear hx2
         try clear qi2
         try clear p3
         try clear q3
         try clear hx3
         try clear qi3
         try clear c4
         try clear c4b0
         try clear c6
         try clear c6b0
         try clear p6
         try clear c7
         try clear c7b0
         try clear c9
         try clear c10
         try clear c10b0
         try clear c10b1
         try clear c11
         try clear p11
         try clear q11
         try clear hx11
         try clear qi11
         try clear c13
         try clear c13b0
         try clear c14
         try clear c14b0
         try clear c16
         try clear c19
         try clear c20
         try clear c20b0
         try clear c20b1
         try clear p21
         try clear q21
         try clear hx21
         try clear qi21
         try clear c22
         try clear c22b0
         try clear c22b1
         try clear p23
         try clear q23
         try clear hx23
         try clear qi23
         try clear c24
         try clear c24b0
         try clear c25
         try clear c25b0
         try clear c26
         try clear c26b0
         try clear p1
         try clear p11
         try clear p2
         try clear p21
         try clear p23
         try clear p3
         try clear p6
         try clear q1
         try clear q11
         try clear q21
         try clear q23
         try clear q3
         obtain ⟨kq, HA, HJ17, ⟨mc17, rfl⟩⟩ := hcut
         cases kq with
         | zero => exact absurd HA.out (by simp [rootcellarref1_Rune.j2])
         | succ kj17 =>
          have H := HA.out
          clear HA
          simp only [rootcellarref1_Rune.j2] at H
          have HC27 := Aside0.mk H
          clear H
          go_upto_region 10 with (fail)
          repeat (go_quiet (fail); go_upto_region 10 with (fail))
          go_cut [88] (fun v88 wc => ∃ (kq : Nat) (x88_26 : Bool), v88 = .bool x88_26 ∧ Aside0 (rootcellarref1_Rune.j3 kq a0 (wrap64 (bt a0 0)) x88_26 = some (r1, r2)) ∧ Aside0 (kq ≤ kj17) ∧ Drawn0 w wc)
          case first =>
           have H := HC27.out
           clear HC27
           by_cases c28 : (wrap64 (bt a0 0)) ≥ 240
           ·rw [if_pos c28] at H
            have c28b0 : decide (240 ≤ (wrap64 (bt a0 0))) = true := decide_eq_true c28
            clear c28
            (first | rw [c28b0] | (simp only [i64_w, i32_w]; rw [c28b0]) | skip)
            by_cases c29 : (wrap64 (bt a0 0)) ≤ 244
            ·rw [if_pos c29] at H
             have c29b0 : decide ((wrap64 (bt a0 0)) ≤ 244) = true := decide_eq_true c29
             clear c29
             replace H := Option.bind_eq_some_iff.mp H
             obtain ⟨t110, A300, H⟩ := H
             replace H : (if t110 = true then ((rootcellarref1_more.f a0 2).bind fun t111 => (if t111 = true then ((rootcellarref1_more.f a0 3).bind fun t112 => (rootcellarref1_Rune.j3 kj17 a0 (wrap64 (bt a0 0)) t112)) else (rootcellarref1_Rune.j3 kj17 a0 (wrap64 (bt a0 0)) false))) else (rootcellarref1_Rune.j3 kj17 a0 (wrap64 (bt a0 0)) false)) = some (r1, r2) := H
             have A30 := Aside0.mk A300
             clear A300
             by_cases c31 : t110 = true
             ·subst c31
              have H1 : ((rootcellarref1_more.f a0 2).bind fun t111 => (if t111 = true then ((rootcellarref1_more.f a0 3).bind fun t112 => (rootcellarref1_Rune.j3 kj17 a0 (wrap64 (bt a0 0)) t112)) else (rootcellarref1_Rune.j3 kj17 a0 (wrap64 (bt a0 0)) false))) = some (r1, r2) := by rw [if_pos rfl] at H; exact H
              clear H
              have H := H1
              clear H1
              replace H := Option.bind_eq_some_iff.mp H
              obtain ⟨t111, A320, H⟩ := H
              replace H : (if t111 = true then ((rootcellarref1_more.f a0 3).bind fun t112 => (rootcellarref1_Rune.j3 kj17 a0 (wrap64 (bt a0 0)) t112)) else (rootcellarref1_Rune.j3 kj17 a0 (wrap64 (bt a0 0)) false)) = some (r1, r2) := H
              have A32 := Aside0.mk A320
              clear A320
              by_cases c33 : t111 = true
              ·subst c33
               have H1 : ((rootcellarref1_more.f a0 3).bind fun t112 => (rootcellarref1_Rune.j3 kj17 a0 (wrap64 (bt a0 0)) t112)) = some (r1, r2) := by rw [if_pos rfl] at H; exact H
               clear H
               have H := H1
               clear H1
               replace H := Option.bind_eq_some_iff.mp H
               obtain ⟨t112, A340, H⟩ := H
               replace H : (rootcellarref1_Rune.j3 kj17 a0 (wrap64 (bt a0 0)) t112) = some (r1, r2) := H
               have A34 := Aside0.mk A340
               clear A340
               have H' := Aside0.mk H
               clear H
               go_wp2_with (first | (go_at_call 38; (with_reducible refine (rootcellarref1_more.calls a0 1 true _ A30.out).mono ?_); rintro e w' ⟨rfl, ⟨nd, rfl⟩⟩; (try first | exact ⟨rfl, _, World.drewN_drewN _ _ _⟩ | exact ⟨rfl, _, Eq.trans (World.drewN_drewN _ _ _) (congrArg (World.drewN _) (Nat.add_assoc _ _ _))⟩)) | (go_at_call 38; (with_reducible refine (rootcellarref1_more.calls a0 2 true _ A32.out).mono ?_); rintro e w' ⟨rfl, ⟨nd, rfl⟩⟩; (try first | exact ⟨rfl, _, World.drewN_drewN _ _ _⟩ | exact ⟨rfl, _, Eq.trans (World.drewN_drewN _ _ _) (congrArg (World.drewN _) (Nat.add_assoc _ _ _))⟩)) | (go_at_call 38; (with_reducible refine (rootcellarref1_more.calls a0 3 t112 _ A34.out).mono ?_); rintro e w' ⟨rfl, ⟨nd, rfl⟩⟩; (try first | exact ⟨rfl, _, World.drewN_drewN _ _ _⟩ | exact ⟨rfl, _, Eq.trans (World.drewN_drewN _ _ _) (congrArg (World.drewN _) (Nat.add_assoc _ _ _))⟩)))
               repeat (go_quiet (first | (go_at_call 38; (with_reducible refine (rootcellarref1_more.calls a0 1 true _ A30.out).mono ?_); rintro e w' ⟨rfl, ⟨nd, rfl⟩⟩; (try first | exact ⟨rfl, _, World.drewN_drewN _ _ _⟩ | exact ⟨rfl, _, Eq.trans (World.drewN_drewN _ _ _) (congrArg (World.drewN _) (Nat.add_assoc _ _ _))⟩)) | (go_at_call 38; (with_reducible refine (rootcellarref1_more.calls a0 2 true _ A32.out).mono ?_); rintro e w' ⟨rfl, ⟨nd, rfl⟩⟩; (try first | exact ⟨rfl, _, World.drewN_drewN _ _ _⟩ | exact ⟨rfl, _, Eq.trans (World.drewN_drewN _ _ _) (congrArg (World.drewN _) (Nat.add_assoc _ _ _))⟩)) | (go_at_call 38; (with_reducible refine (rootcellarref1_more.calls a0 3 t112 _ A34.out).mono ?_); rintro e w' ⟨rfl, ⟨nd, rfl⟩⟩; (try first | exact ⟨rfl, _, World.drewN_drewN _ _ _⟩ | exact ⟨rfl, _, Eq.trans (World.drewN_drewN _ _ _) (congrArg (World.drewN _) (Nat.add_assoc _ _ _))⟩))); try go_wp2_with (first | (go_at_call 38; (with_reducible refine (rootcellarref1_more.calls a0 1 true _ A30.out).mono ?_); rintro e w' ⟨rfl, ⟨nd, rfl⟩⟩; (try first | exact ⟨rfl, _, World.drewN_drewN _ _ _⟩ | exact ⟨rfl, _, Eq.trans (World.drewN_drewN _ _ _) (congrArg (World.drewN _) (Nat.add_assoc _ _ _))⟩)) | (go_at_call 38; (with_reducible refine (rootcellarref1_more.calls a0 2 true _ A32.out).mono ?_); rintro e w' ⟨rfl, ⟨nd, rfl⟩⟩; (try first | exact ⟨rfl, _, World.drewN_drewN _ _ _⟩ | exact ⟨rfl, _, Eq.trans (World.drewN_drewN _ _ _) (congrArg (World.drewN _) (Nat.add_assoc _ _ _))⟩)) | (go_at_call 38; (with_reducible refine (rootcellarref1_more.calls a0 3 t112 _ A34.out).mono ?_); rintro e w' ⟨rfl, ⟨nd, rfl⟩⟩; (try first | exact ⟨rfl, _, World.drewN_drewN _ _ _⟩ | exact ⟨rfl, _, Eq.trans (World.drewN_drewN _ _ _) (congrArg (World.drewN _) (Nat.add_assoc _ _ _))⟩))))
               go_meet
               case rel => exact ⟨_, (t112), (by first | rfl | (simp; done) | (simp [*]; done)), H', ⟨by have := HJ4.out; have := HJ11.out; have := HJ17.out; first | omega | exact Nat.le_refl _⟩, by repeat (first | exact Drawn0.refl _ | apply Drawn0.step)⟩
              ·replace c33 := Bool.eq_false_iff.mpr c33
               subst c33
               have H1 : (rootcellarref1_Rune.j3 kj17 a0 (wrap64 (bt a0 0)) false) = some (r1, r2) := by rw [if_neg (show ¬ (false = true) by decide)] at H; exact H
               clear H
               have H := H1
               clear H1
               have H' := Aside0.mk H
               clear H
               go_wp2_with (first | (go_at_call 38; (with_reducible refine (rootcellarref1_more.calls a0 1 true _ A30.out).mono ?_); rintro e w' ⟨rfl, ⟨nd, rfl⟩⟩; (try first | exact ⟨rfl, _, World.drewN_drewN _ _ _⟩ | exact ⟨rfl, _, Eq.trans (World.drewN_drewN _ _ _) (congrArg (World.drewN _) (Nat.add_assoc _ _ _))⟩)) | (go_at_call 38; (with_reducible refine (rootcellarref1_more.calls a0 2 false _ A32.out).mono ?_); rintro e w' ⟨rfl, ⟨nd, rfl⟩⟩; (try first | exact ⟨rfl, _, World.drewN_drewN _ _ _⟩ | exact ⟨rfl, _, Eq.trans (World.drewN_drewN _ _ _) (congrArg (World.drewN _) (Nat.add_assoc _ _ _))⟩)))
               repeat (go_quiet (first | (go_at_call 38; (with_reducible refine (rootcellarref1_more.calls a0 1 true _ A30.out).mono ?_); rintro e w' ⟨rfl, ⟨nd, rfl⟩⟩; (try first | exact ⟨rfl, _, World.drewN_drewN _ _ _⟩ | exact ⟨rfl, _, Eq.trans (World.drewN_drewN _ _ _) (congrArg (World.drewN _) (Nat.add_assoc _ _ _))⟩)) | (go_at_call 38; (with_reducible refine (rootcellarref1_more.calls a0 2 false _ A32.out).mono ?_); rintro e w' ⟨rfl, ⟨nd, rfl⟩⟩; (try first | exact ⟨rfl, _, World.drewN_drewN _ _ _⟩ | exact ⟨rfl, _, Eq.trans (World.drewN_drewN _ _ _) (congrArg (World.drewN _) (Nat.add_assoc _ _ _))⟩))); try go_wp2_with (first | (go_at_call 38; (with_reducible refine (rootcellarref1_more.calls a0 1 true _ A30.out).mono ?_); rintro e w' ⟨rfl, ⟨nd, rfl⟩⟩; (try first | exact ⟨rfl, _, World.drewN_drewN _ _ _⟩ | exact ⟨rfl, _, Eq.trans (World.drewN_drewN _ _ _) (congrArg (World.drewN _) (Nat.add_assoc _ _ _))⟩)) | (go_at_call 38; (with_reducible refine (rootcellarref1_more.calls a0 2 false _ A32.out).mono ?_); rintro e w' ⟨rfl, ⟨nd, rfl⟩⟩; (try first | exact ⟨rfl, _, World.drewN_drewN _ _ _⟩ | exact ⟨rfl, _, Eq.trans (World.drewN_drewN _ _ _) (congrArg (World.drewN _) (Nat.add_assoc _ _ _))⟩))))
               go_meet
               case rel => exact ⟨_, (false), (by first | rfl | (simp; done) | (simp [*]; done)), H', ⟨by have := HJ4.out; have := HJ11.out; have := HJ17.out; first | omega | exact Nat.le_refl _⟩, by repeat (first | exact Drawn0.refl _ | apply Drawn0.step)⟩
             ·replace c31 := Bool.eq_false_iff.mpr c31
              subst c31
              have H1 : (rootcellarref1_Rune.j3 kj17 a0 (wrap64 (bt a0 0)) false) = some (r1, r2) := by rw [if_neg (show ¬ (false = true) by decide)] at H; exact H
              clear H
              have H := H1
              clear H1
              have H' := Aside0.mk H
              clear H
              go_wp2_with (first | (go_at_call 38; (with_reducible refine (rootcellarref1_more.calls a0 1 false _ A30.out).mono ?_); rintro e w' ⟨rfl, ⟨nd, rfl⟩⟩; (try first | exact ⟨rfl, _, World.drewN_drewN _ _ _⟩ | exact ⟨rfl, _, Eq.trans (World.drewN_drewN _ _ _) (congrArg (World.drewN _) (Nat.add_assoc _ _ _))⟩)))
              repeat (go_quiet (first | (go_at_call 38; (with_reducible refine (rootcellarref1_more.calls a0 1 false _ A30.out).mono ?_); rintro e w' ⟨rfl, ⟨nd, rfl⟩⟩; (try first | exact ⟨rfl, _, World.drewN_drewN _ _ _⟩ | exact ⟨rfl, _, Eq.trans (World.drewN_drewN _ _ _) (congrArg (World.drewN _) (Nat.add_assoc _ _ _))⟩))); try go_wp2_with (first | (go_at_call 38; (with_reducible refine (rootcellarref1_more.calls a0 1 false _ A30.out).mono ?_); rintro e w' ⟨rfl, ⟨nd, rfl⟩⟩; (try first | exact ⟨rfl, _, World.drewN_drewN _ _ _⟩ | exact ⟨rfl, _, Eq.trans (World.drewN_drewN _ _ _) (congrArg (World.drewN _) (Nat.add_assoc _ _ _))⟩))))
              go_meet
              case rel => exact ⟨_, (false), (by first | rfl | (simp; done) | (simp [*]; done)), H', ⟨by have := HJ4.out; have := HJ11.out; have := HJ17.out; first | omega | exact Nat.le_refl _⟩, by repeat (first | exact Drawn0.refl _ | apply Drawn0.step)⟩
            ·rw [if_neg c29] at H
             have c29b0 : decide ((wrap64 (bt a0 0)) ≤ 244) = false := decide_eq_false c29
             clear c29
             have H' := Aside0.mk H
             clear H
             go_wp2
             repeat (go_quiet (fail); try go_wp2)
             go_meet
             case rel => exact ⟨_, (false), (by first | rfl | (simp; done) | (simp [*]; done)), H', ⟨by have := HJ4.out; have := HJ11.out; have := HJ17.out; first | omega | exact Nat.le_refl _⟩, by repeat (first | exact Drawn0.refl _ | apply Drawn0.step)⟩
           ·rw [if_neg c28] at H
            have c28b0 : decide (240 ≤ (wrap64 (bt a0 0))) = false := decide_eq_false c28
            clear c28
            (first | rw [c28b0] | (simp only [i64_w, i32_w]; rw [c28b0]) | skip)
            have H' := Aside0.mk H
            clear H
            go_wp2
            repeat (go_quiet (fail); try go_wp2)
            go_meet
            case rel => exact ⟨_, (false), (by first | rfl | (simp; done) | (simp [*]; done)), H', ⟨by have := HJ4.out; have := HJ11.out; have := HJ17.out; first | omega | exact Nat.le_refl _⟩, by repeat (first | exact Drawn0.refl _ | apply Drawn0.step)⟩
          case rest =>
           clear HC27
           try clear c1
           try clear p1
           try clear q1
           try clear hx1
           try clear qi1
           try clear c2
           try clear c2b0
           try clear c2b1
           try clear p2
           try clear q2
           try clear hx2
           try clear qi2
           try clear c3
           try clear p3
           try clear q3
           try clear hx3
           try clear qi3
           try clear c4
           try clear c4b0
           try clear c6
           try clear c6b0
           try clear p6
           try clear c7
           try clear c7b0
           try clear c9
           try clear c10
           try clear c10b0
           try clear c10b1
           try clear c11
           try clear p11
           try clear q11
           try clear hx11
           try clear qi11
           try clear c13
           try clear c13b0
           try clear c14
           try clear c14b0
           try clear c16
           try clear c17
           try clear c19
           try clear c20
           try clear c20b0
           try clear c20b1
           try clear p21
           try clear q21
           try clear hx21
           try clear qi21
           try clear c22
           try clear c22b0
           try clear c22b1
           try clear p23
           try clear q23
           try clear hx23
           try clear qi23
           try clear c24
           try clear c24b0
           try clear c25
           try clear c25b0
           try clear c26
           try clear c26b0
           try clear c27
           try clear c28
           try clear c28b0
           try clear c29
           try clear c29b0
           try clear c31
           try clear c33
           try clear p1
           try clear p11
           try clear p2
           try clear p21
           try clear p23
           try clear p3
           try clear p6
           try clear q1
           try clear q11
           try clear q2
           try clear q21
           try clear q23
           try clear q3
           obtain ⟨kq, x88_26, rfl, HA, HJ26, ⟨mc26, rfl⟩⟩ := hcut
           cases kq with
           | zero => exact absurd HA.out (by simp [rootcellarref1_Rune.j3])
           | succ kj26 =>
            have H := HA.out
            clear HA
            simp only [rootcellarref1_Rune.j3] at H
            by_cases c35 : x88_26 = true
            ·subst c35
             have H1 : (if 1 < (a0.size : Int) then (if 2 < (a0.size : Int) then (if 3 < (a0.size : Int) then (if (wrap64 ((wrap64 ((wrap64 ((wrap64 ((wrap64 ((wrap64 ((wrap64 (bt a0 0)) - 240)) * 262144)) + (wrap64 ((wrap64 ((wrap64 (bt a0 1)) - 128)) * 4096)))) + (wrap64 ((wrap64 ((wrap64 (bt a0 2)) - 128)) * 64)))) + (wrap64 (bt a0 3)))) - 128)) ≥ 65536 then (if (wrap64 ((wrap64 ((wrap64 ((wrap64 ((wrap64 ((wrap64 ((wrap64 (bt a0 0)) - 240)) * 262144)) + (wrap64 ((wrap64 ((wrap64 (bt a0 1)) - 128)) * 4096)))) + (wrap64 ((wrap64 ((wrap64 (bt a0 2)) - 128)) * 64)))) + (wrap64 (bt a0 3)))) - 128)) ≤ 1114111 then (some (wrap64 ((wrap64 ((wrap64 ((wrap64 ((wrap64 ((wrap64 ((wrap64 (bt a0 0)) - 240)) * 262144)) + (wrap64 ((wrap64 ((wrap64 (bt a0 1)) - 128)) * 4096)))) + (wrap64 ((wrap64 ((wrap64 (bt a0 2)) - 128)) * 64)))) + (wrap64 (bt a0 3)))) - 128), 4)) else (some ((-1), 1))) else (some ((-1), 1))) else (none)) else (none)) else (none)) = some (r1, r2) := by rw [if_pos rfl] at H; exact H
             clear H
             have H := H1
             clear H1
             by_cases c36 : 1 < (a0.size : Int)
             ·rw [if_pos c36] at H
              have c36b0 : decide (1 < (a0.size : Int)) = true := decide_eq_true c36
              have c36b1 : decide (1 < a0.size) = true := decide_eq_true (by omega)
              clear c36
              by_cases c38 : 2 < (a0.size : Int)
              ·rw [if_pos c38] at H
               have c38b0 : decide (2 < (a0.size : Int)) = true := decide_eq_true c38
               have c38b1 : decide (2 < a0.size) = true := decide_eq_true (by omega)
               clear c38
               by_cases c40 : 3 < (a0.size : Int)
               ·rw [if_pos c40] at H
                have c40b0 : decide (3 < (a0.size : Int)) = true := decide_eq_true c40
                have c40b1 : decide (3 < a0.size) = true := decide_eq_true (by omega)
                clear c40
                by_cases c42 : (wrap64 ((wrap64 ((wrap64 ((wrap64 ((wrap64 ((wrap64 ((wrap64 (bt a0 0)) - 240)) * 262144)) + (wrap64 ((wrap64 ((wrap64 (bt a0 1)) - 128)) * 4096)))) + (wrap64 ((wrap64 ((wrap64 (bt a0 2)) - 128)) * 64)))) + (wrap64 (bt a0 3)))) - 128)) ≥ 65536
                ·rw [if_pos c42] at H
                 have c42b0 : decide (65536 ≤ (wrap64 ((wrap64 ((wrap64 ((wrap64 ((wrap64 ((wrap64 ((wrap64 (bt a0 0)) - 240)) * 262144)) + (wrap64 ((wrap64 ((wrap64 (bt a0 1)) - 128)) * 4096)))) + (wrap64 ((wrap64 ((wrap64 (bt a0 2)) - 128)) * 64)))) + (wrap64 (bt a0 3)))) - 128))) = true := decide_eq_true c42
                 clear c42
                 by_cases c43 : (wrap64 ((wrap64 ((wrap64 ((wrap64 ((wrap64 ((wrap64 ((wrap64 (bt a0 0)) - 240)) * 262144)) + (wrap64 ((wrap64 ((wrap64 (bt a0 1)) - 128)) * 4096)))) + (wrap64 ((wrap64 ((wrap64 (bt a0 2)) - 128)) * 64)))) + (wrap64 (bt a0 3)))) - 128)) ≤ 1114111
                 ·rw [if_pos c43] at H
                  have c43b0 : decide ((wrap64 ((wrap64 ((wrap64 ((wrap64 ((wrap64 ((wrap64 ((wrap64 (bt a0 0)) - 240)) * 262144)) + (wrap64 ((wrap64 ((wrap64 (bt a0 1)) - 128)) * 4096)))) + (wrap64 ((wrap64 ((wrap64 (bt a0 2)) - 128)) * 64)))) + (wrap64 (bt a0 3)))) - 128)) ≤ 1114111) = true := decide_eq_true c43
                  clear c43
                  simp only [Option.some.injEq, Prod.mk.injEq] at H
                  obtain ⟨rfl, rfl⟩ := H
                  have p37 : 0 ≤ (1 : Int) := (by omega)
                  have q37 : 1 < a0.size := (by have : (1 : Int) < (a0.size : Int) := of_decide_eq_true (by first | (with_reducible assumption) | assumption); omega)
                  have hx37 : ∀ h : 1 < a0.size, ((a0[1]'h).toNat : Int) = bt a0 1 := bt_at a0 1
                  clear p37
                  have qi37 : (1 < (a0.size : Int)) = True := eq_true (of_decide_eq_true (by first | (with_reducible assumption) | assumption))
                  replace q37 := eq_true q37
                  have p39 : 0 ≤ (2 : Int) := (by omega)
                  have q39 : 2 < a0.size := (by have : (2 : Int) < (a0.size : Int) := of_decide_eq_true (by first | (with_reducible assumption) | assumption); omega)
                  have hx39 : ∀ h : 2 < a0.size, ((a0[2]'h).toNat : Int) = bt a0 2 := bt_at a0 2
                  clear p39
                  have qi39 : (2 < (a0.size : Int)) = True := eq_true (of_decide_eq_true (by first | (with_reducible assumption) | assumption))
                  replace q39 := eq_true q39
                  have p41 : 0 ≤ (3 : Int) := (by omega)
                  have q41 : 3 < a0.size := (by have : (3 : Int) < (a0.size : Int) := of_decide_eq_true (by first | (with_reducible assumption) | assumption); omega)
                  have hx41 : ∀ h : 3 < a0.size, ((a0[3]'h).toNat : Int) = bt a0 3 := bt_at a0 3
                  clear p41
                  have qi41 : (3 < (a0.size : Int)) = True := eq_true (of_decide_eq_true (by first | (with_reducible assumption) | assumption))
                  replace q41 := eq_true q41
                  go_wp2
                  repeat (go_quiet (fail); try go_wp2)
                  go_ret2
                  exact ⟨by first | rfl | (simp; done) | (simp [*]; done), by repeat (first | exact Drawn0.refl _ | apply Drawn0.step)⟩
                 ·rw [if_neg c43] at H
                  have c43b0 : decide ((wrap64 ((wrap64 ((wrap64 ((wrap64 ((wrap64 ((wrap64 ((wrap64 (bt a0 0)) - 240)) * 262144)) + (wrap64 ((wrap64 ((wrap64 (bt a0 1)) - 128)) * 4096)))) + (wrap64 ((wrap64 ((wrap64 (bt a0 2)) - 128)) * 64)))) + (wrap64 (bt a0 3)))) - 128)) ≤ 1114111) = false := decide_eq_false c43
                  clear c43
                  simp only [Option.some.injEq, Prod.mk.injEq] at H
                  obtain ⟨rfl, rfl⟩ := H
                  have p37 : 0 ≤ (1 : Int) := (by omega)
                  have q37 : 1 < a0.size := (by have : (1 : Int) < (a0.size : Int) := of_decide_eq_true (by first | (with_reducible assumption) | assumption); omega)
                  have hx37 : ∀ h : 1 < a0.size, ((a0[1]'h).toNat : Int) = bt a0 1 := bt_at a0 1
                  clear p37
                  have qi37 : (1 < (a0.size : Int)) = True := eq_true (of_decide_eq_true (by first | (with_reducible assumption) | assumption))
                  replace q37 := eq_true q37
                  have p39 : 0 ≤ (2 : Int) := (by omega)
                  have q39 : 2 < a0.size := (by have : (2 : Int) < (a0.size : Int) := of_decide_eq_true (by first | (with_reducible assumption) | assumption); omega)
                  have hx39 : ∀ h : 2 < a0.size, ((a0[2]'h).toNat : Int) = bt a0 2 := bt_at a0 2
                  clear p39
                  have qi39 : (2 < (a0.size : Int)) = True := eq_true (of_decide_eq_true (by first | (with_reducible assumption) | assumption))
                  replace q39 := eq_true q39
                  have p41 : 0 ≤ (3 : Int) := (by omega)
                  have q41 : 3 < a0.size := (by have : (3 : Int) < (a0.size : Int) := of_decide_eq_true (by first | (with_reducible assumption) | assumption); omega)
                  have hx41 : ∀ h : 3 < a0.size, ((a0[3]'h).toNat : Int) = bt a0 3 := bt_at a0 3
                  clear p41
                  have qi41 : (3 < (a0.size : Int)) = True := eq_true (of_decide_eq_true (by first | (with_reducible assumption) | assumption))
                  replace q41 := eq_true q41
                  go_wp2
                  repeat (go_quiet (fail); try go_wp2)
                  go_ret2
                  exact ⟨by first | rfl | (simp; done) | (simp [*]; done), by repeat (first | exact Drawn0.refl _ | apply Drawn0.step)⟩
                ·rw [if_neg c42] at H
                 have c42b0 : decide (65536 ≤ (wrap64 ((wrap64 ((wrap64 ((wrap64 ((wrap64 ((wrap64 ((wrap64 (bt a0 0)) - 240)) * 262144)) + (wrap64 ((wrap64 ((wrap64 (bt a0 1)) - 128)) * 4096)))) + (wrap64 ((wrap64 ((wrap64 (bt a0 2)) - 128)) * 64)))) + (wrap64 (bt a0 3)))) - 128))) = false := decide_eq_false c42
                 clear c42
                 simp only [Option.some.injEq, Prod.mk.injEq] at H
                 obtain ⟨rfl, rfl⟩ := H
                 have p37 : 0 ≤ (1 : Int) := (by omega)
                 have q37 : 1 < a0.size := (by have : (1 : Int) < (a0.size : Int) := of_decide_eq_true (by first | (with_reducible assumption) | assumption); omega)
                 have hx37 : ∀ h : 1 < a0.size, ((a0[1]'h).toNat : Int) = bt a0 1 := bt_at a0 1
                 clear p37
                 have qi37 : (1 < (a0.size : Int)) = True := eq_true (of_decide_eq_true (by first | (with_reducible assumption) | assumption))
                 replace q37 := eq_true q37
                 have p39 : 0 ≤ (2 : Int) := (by omega)
                 have q39 : 2 < a0.size := (by have : (2 : Int) < (a0.size : Int) := of_decide_eq_true (by first | (with_reducible assumption) | assumption); omega)
                 have hx39 : ∀ h : 2 < a0.size, ((a0[2]'h).toNat : Int) = bt a0 2 := bt_at a0 2
                 clear p39
                 have qi39 : (2 < (a0.size : Int)) = True := eq_true (of_decide_eq_true (by first | (with_reducible assumption) | assumption))
                 replace q39 := eq_true q39
                 have p41 : 0 ≤ (3 : Int) := (by omega)
                 have q41 : 3 < a0.size := (by have : (3 : Int) < (a0.size : Int) := of_decide_eq_true (by first | (with_reducible assumption) | assumption); omega)
                 have hx41 : ∀ h : 3 < a0.size, ((a0[3]'h).toNat : Int) = bt a0 3 := bt_at a0 3
                 clear p41
                 have qi41 : (3 < (a0.size : Int)) = True := eq_true (of_decide_eq_true (by first | (with_reducible assumption) | assumption))
                 replace q41 := eq_true q41
                 go_wp2
                 repeat (go_quiet (fail); try go_wp2)
                 go_ret2
                 exact ⟨by first | rfl | (simp; done) | (simp [*]; done), by repeat (first | exact Drawn0.refl _ | apply Drawn0.step)⟩
               ·rw [if_neg c40] at H
                exact absurd H (by simp)
              ·rw [if_neg c38] at H
               exact absurd H (by simp)
             ·rw [if_neg c36] at H
              exact absurd H (by simp)
            ·replace c35 := Bool.eq_false_iff.mpr c35
             subst c35
             have H1 : (some ((-1), 1)) = some (r1, r2) := by rw [if_neg (show ¬ (false = true) by decide)] at H; exact H
             clear H
             have H := H1
             clear H1
             simp only [Option.some.injEq, Prod.mk.injEq] at H
             obtain ⟨rfl, rfl⟩ := H
             go_wp2
             repeat (go_quiet (fail); try go_wp2)
             go_ret2
             exact ⟨by first | rfl | (simp; done) | (simp [*]; done), by repeat (first | exact Drawn0.refl _ | apply Drawn0.step)⟩
 ·rw [if_neg c2] at H
  exact absurd H (by simp)

end Go.Proofs.YtapkghkcaflkmaaDoor.Fn
end
section
-- Written by printx.py, a program of this session over the kit's print: each Go function as a plain Lean function, and that the Go code computes it.


namespace Go.Proofs.YtapkghkcaflkmaaDoor.Fn
open Go.RowKit Go.Proofs.YtapkghkcaflkmaaDoorW.PrintWords Go.Proofs.YtapkghkcaflkmaaDoorW.PrintLast Go.Proofs.YtapkghkcaflkmaaDoorW.PrintMore Go.Proofs.YtapkghkcaflkmaaDoor.Lf
attribute [local go_sem] max2_int min2_int max_two min_two max_three min_three max_four min_four   -- for this text's walks alone
set_option linter.unusedVariables false
set_option linter.unusedSimpArgs false

/-! ### rootcellarref1_Valid: function 13 -/
def rootcellarref1_Valid.l0 : Nat → ByteArray → Option (Bool)
 | 0, _ => none
 | k + 1, x0 => if x0.toList = ([] : List UInt8) then (some true) else ((rootcellarref1_Rune.f k x0).bind fun bt113 => (if bt113.1 < 0 then (some false) else (if 0 ≤ bt113.2 then (if bt113.2 ≤ (x0.size : Int) then (rootcellarref1_Valid.l0 k (x0.extract (bt113.2 : Int).toNat x0.size)) else (none)) else (none))))
def rootcellarref1_Valid.f (k : Nat) (a0 : ByteArray) : Option (Bool) := rootcellarref1_Valid.l0 k a0
theorem rootcellarref1_Valid.mono_l : ∀ k, (∀ y0, LeO (rootcellarref1_Valid.l0 k y0) (rootcellarref1_Valid.l0 (k + 1) y0))
 | 0 => fun _ r h => by simp [rootcellarref1_Valid.l0] at h
 | k + 1 => by
  have ih0 := rootcellarref1_Valid.mono_l k
  ·intro y0
   unfold rootcellarref1_Valid.l0
   repeat' first
   | (with_reducible exact ih0 _)
   | (with_reducible exact rootcellarref1_Rune.mono _ _)
   | (with_reducible exact LeO.refl _)
   | (with_reducible exact LeO.none _)
   | (with_reducible refine LeO.ite ?_ ?_)
   | (with_reducible refine LeO.bind ?_ (fun _ => ?_))
   | exact ih0 _
   | exact rootcellarref1_Rune.mono _ _
   | exact LeO.none _
   | refine LeO.ite ?_ ?_
   | refine LeO.bind ?_ (fun _ => ?_)
theorem rootcellarref1_Valid.mono : ∀ a0 k, LeO (rootcellarref1_Valid.f k a0) (rootcellarref1_Valid.f (k + 1) a0) := by
 intro a0 k
 have ih0 := rootcellarref1_Valid.mono_l k
 unfold rootcellarref1_Valid.f
 repeat' first
   | (with_reducible exact ih0 _)
   | (with_reducible exact rootcellarref1_Rune.mono _ _)
   | (with_reducible exact LeO.refl _)
   | (with_reducible exact LeO.none _)
   | (with_reducible refine LeO.ite ?_ ?_)
   | (with_reducible refine LeO.bind ?_ (fun _ => ?_))
   | exact ih0 _
   | exact rootcellarref1_Rune.mono _ _
   | exact LeO.none _
   | refine LeO.ite ?_ ?_
   | refine LeO.bind ?_ (fun _ => ?_)
set_option maxHeartbeats 8000000 in
set_option maxRecDepth 100000 in
theorem rootcellarref1_Valid.calls (k : Nat) (a0 : ByteArray) (r : Bool) (w : World) (h : rootcellarref1_Valid.f k a0 = some r) :
  Calls Tryd.prog 13 #[.string a0] w fun e w' => e = .returned (.bool r) ∧ Drawn0 w w' := by
 have H : (rootcellarref1_Valid.l0 k a0) = some r := h
 clear h
 have H' := Aside0.mk H
 clear H
 go_enter Tryd.func13, Tryd.ntmps13
 go_wp2
 go_loopg [0] k (fun kq v0 w' => ∃ (x0_1 : ByteArray), v0 = .string x0_1 ∧ Aside0 (rootcellarref1_Valid.l0 kq x0_1 = some r) ∧ Aside0 (kq ≤ k) ∧ Drawn0 w w')
 case atStart => exact ⟨(a0), (by first | rfl | (simp; done) | (simp [*]; done)), H', ⟨Nat.le_refl _⟩, by repeat (first | exact Drawn0.refl _ | apply Drawn0.step)⟩
 case round =>
  clear H'
  try clear c1
  obtain ⟨x0_1, rfl, HA, HK1, ⟨m1, rfl⟩⟩ := hrel
  cases gk with
  | zero => exact absurd HA.out (by simp [rootcellarref1_Valid.l0])
  | succ k1 =>
   have H := HA.out
   clear HA
   simp only [rootcellarref1_Valid.l0] at H
   by_cases c2 : x0_1.toList = ([] : List UInt8)
   ·rw [if_pos c2] at H
    have c2b0 : (x0_1.toList == ([] : List UInt8)) = true := beq_iff_eq.mpr c2
    have c2b1 : (x0_1.toList != ([] : List UInt8)) = false := bne_eq_false_iff_eq.mpr c2
    clear c2
    obtain rfl := Option.some.inj H
    go_wp2
    go_ret
    exact ⟨by first | rfl | (simp; done) | (simp [*]; done), by repeat (first | exact Drawn0.refl _ | apply Drawn0.step)⟩
   ·rw [if_neg c2] at H
    have c2b0 : (x0_1.toList == ([] : List UInt8)) = false := beq_eq_false_iff_ne.mpr c2
    have c2b1 : (x0_1.toList != ([] : List UInt8)) = true := bne_iff_ne.mpr c2
    replace H := Option.bind_eq_some_iff.mp H
    obtain ⟨⟨t113, t114⟩, A30, H⟩ := H
    replace H : (if t113 < 0 then (some false) else (if 0 ≤ t114 then (if t114 ≤ (x0_1.size : Int) then (rootcellarref1_Valid.l0 k1 (x0_1.extract (t114 : Int).toNat x0_1.size)) else (none)) else (none))) = some r := H
    have A3 := Aside0.mk A30
    clear A30
    by_cases c4 : t113 < 0
    ·rw [if_pos c4] at H
     have c4b0 : decide (t113 < 0) = true := decide_eq_true c4
     clear c4
     obtain rfl := Option.some.inj H
     go_wp2_with (first | ((with_reducible refine gate_callee (f := 27) rfl ?_); refine goesL_ (some 9) rfl rfl Tryd.func27 (by kernel_rfl) rfl #[.string x0_1] rfl (by (try simp only [List.map_toArray, List.map_cons, List.map_nil]); first | done | rfl | (simp only [List.length_drop, List.length_take]; rfl) | (rw [wrap_sum2 (by assumption)]; rfl)) ?_; (with_reducible refine (rootcellarref1_Rune.calls k1 x0_1 t113 t114 _ A3.out).mono ?_); rintro e w' ⟨rfl, ⟨nd, rfl⟩⟩; refine ⟨_, rfl, ?_⟩))
     go_ret
     exact ⟨by first | rfl | (simp; done) | (simp [*]; done), by repeat (first | exact Drawn0.refl _ | apply Drawn0.step)⟩
    ·rw [if_neg c4] at H
     have c4b0 : decide (t113 < 0) = false := decide_eq_false c4
     clear c4
     by_cases c5 : 0 ≤ t114
     ·rw [if_pos c5] at H
      have c5b0 := eq_true c5
      have c5b1 : decide (0 ≤ t114) = true := decide_eq_true c5
      clear c5
      by_cases c6 : t114 ≤ (x0_1.size : Int)
      ·rw [if_pos c6] at H
       have c6b0 := eq_true c6
       have c6b1 : decide (t114 ≤ (x0_1.size : Int)) = true := decide_eq_true c6
       clear c6
       have H' := Aside0.mk H
       clear H
       go_wp2_with (first | ((with_reducible refine gate_callee (f := 27) rfl ?_); refine goesL_ (some 9) rfl rfl Tryd.func27 (by kernel_rfl) rfl #[.string x0_1] rfl (by (try simp only [List.map_toArray, List.map_cons, List.map_nil]); first | done | rfl | (simp only [List.length_drop, List.length_take]; rfl) | (rw [wrap_sum2 (by assumption)]; rfl)) ?_; (with_reducible refine (rootcellarref1_Rune.calls k1 x0_1 t113 t114 _ A3.out).mono ?_); rintro e w' ⟨rfl, ⟨nd, rfl⟩⟩; refine ⟨_, rfl, ?_⟩))
       go_roundg k1
       case measure => have := HK1.out; omega
       case rel => exact ⟨(x0_1.extract (t114 : Int).toNat x0_1.size), (by first | rfl | (simp; done) | (simp [*]; done)), H', ⟨by have := HK1.out; omega⟩, by repeat (first | exact Drawn0.refl _ | apply Drawn0.step)⟩
      ·rw [if_neg c6] at H
       exact absurd H (by simp)
     ·rw [if_neg c5] at H
      exact absurd H (by simp)

end Go.Proofs.YtapkghkcaflkmaaDoor.Fn
end
section
-- Written by printx.py, a program of this session over the kit's print: each Go function as a plain Lean function, and that the Go code computes it.


namespace Go.Proofs.YtapkghkcaflkmaaDoor.Fn
open Go.RowKit Go.Proofs.YtapkghkcaflkmaaDoorW.PrintWords Go.Proofs.YtapkghkcaflkmaaDoorW.PrintLast Go.Proofs.YtapkghkcaflkmaaDoorW.PrintMore Go.Proofs.YtapkghkcaflkmaaDoor.Lf
attribute [local go_sem] max2_int min2_int max_two min_two max_three min_three max_four min_four   -- for this text's walks alone
set_option linter.unusedVariables false
set_option linter.unusedSimpArgs false

/-! ### rootcellarref1_Count: function 15 -/
def rootcellarref1_Count.l0 : Nat → ByteArray → Int → Option (Int)
 | 0, _, _ => none
 | k + 1, x0, x3 => if x0.toList = ([] : List UInt8) then (some x3) else ((rootcellarref1_Rune.f k x0).bind fun bt115 => (if 0 ≤ bt115.2 then (if bt115.2 ≤ (x0.size : Int) then (rootcellarref1_Count.l0 k (x0.extract (bt115.2 : Int).toNat x0.size) (wrap64 (x3 + 1))) else (none)) else (none)))
def rootcellarref1_Count.f (k : Nat) (a0 : ByteArray) : Option (Int) := rootcellarref1_Count.l0 k a0 0
theorem rootcellarref1_Count.mono_l : ∀ k, (∀ y0 y1, LeO (rootcellarref1_Count.l0 k y0 y1) (rootcellarref1_Count.l0 (k + 1) y0 y1))
 | 0 => fun _ _ r h => by simp [rootcellarref1_Count.l0] at h
 | k + 1 => by
  have ih0 := rootcellarref1_Count.mono_l k
  ·intro y0 y1
   unfold rootcellarref1_Count.l0
   repeat' first
   | (with_reducible exact ih0 _ _)
   | (with_reducible exact rootcellarref1_Rune.mono _ _)
   | (with_reducible exact LeO.refl _)
   | (with_reducible exact LeO.none _)
   | (with_reducible refine LeO.ite ?_ ?_)
   | (with_reducible refine LeO.bind ?_ (fun _ => ?_))
   | exact ih0 _ _
   | exact rootcellarref1_Rune.mono _ _
   | exact LeO.none _
   | refine LeO.ite ?_ ?_
   | refine LeO.bind ?_ (fun _ => ?_)
theorem rootcellarref1_Count.mono : ∀ a0 k, LeO (rootcellarref1_Count.f k a0) (rootcellarref1_Count.f (k + 1) a0) := by
 intro a0 k
 have ih0 := rootcellarref1_Count.mono_l k
 unfold rootcellarref1_Count.f
 repeat' first
   | (with_reducible exact ih0 _ _)
   | (with_reducible exact rootcellarref1_Rune.mono _ _)
   | (with_reducible exact LeO.refl _)
   | (with_reducible exact LeO.none _)
   | (with_reducible refine LeO.ite ?_ ?_)
   | (with_reducible refine LeO.bind ?_ (fun _ => ?_))
   | exact ih0 _ _
   | exact rootcellarref1_Rune.mono _ _
   | exact LeO.none _
   | refine LeO.ite ?_ ?_
   | refine LeO.bind ?_ (fun _ => ?_)
set_option maxHeartbeats 8000000 in
set_option maxRecDepth 100000 in
theorem rootcellarref1_Count.calls (k : Nat) (a0 : ByteArray) (r : Int) (w : World) (h : rootcellarref1_Count.f k a0 = some r) :
  Calls Tryd.prog 15 #[.string a0] w fun e w' => e = .returned (.int .i64 r) ∧ Drawn0 w w' := by
 have H : (rootcellarref1_Count.l0 k a0 0) = some r := h
 clear h
 have H' := Aside0.mk H
 clear H
 go_enter Tryd.func15, Tryd.ntmps15
 go_wp2
 go_loopg [0, 3] k (fun kq v0 v3 w' => ∃ (x0_1 : ByteArray) (x3_1 : Int), v0 = .string x0_1 ∧ v3 = .int .i64 x3_1 ∧ Aside0 (rootcellarref1_Count.l0 kq x0_1 x3_1 = some r) ∧ Aside0 (kq ≤ k) ∧ Drawn0 w w')
 case atStart => exact ⟨(a0), (0), (by first | rfl | (simp; done) | (simp [*]; done)), (by first | rfl | (simp; done) | (simp [*]; done)), H', ⟨Nat.le_refl _⟩, by repeat (first | exact Drawn0.refl _ | apply Drawn0.step)⟩
 case round =>
  clear H'
  try clear c1
  obtain ⟨x0_1, x3_1, rfl, rfl, HA, HK1, ⟨m1, rfl⟩⟩ := hrel
  cases gk with
  | zero => exact absurd HA.out (by simp [rootcellarref1_Count.l0])
  | succ k1 =>
   have H := HA.out
   clear HA
   simp only [rootcellarref1_Count.l0] at H
   by_cases c2 : x0_1.toList = ([] : List UInt8)
   ·rw [if_pos c2] at H
    have c2b0 : (x0_1.toList == ([] : List UInt8)) = true := beq_iff_eq.mpr c2
    have c2b1 : (x0_1.toList != ([] : List UInt8)) = false := bne_eq_false_iff_eq.mpr c2
    clear c2
    obtain rfl := Option.some.inj H
    go_wp2
    go_ret
    exact ⟨by first | rfl | (simp; done) | (simp [*]; done), by repeat (first | exact Drawn0.refl _ | apply Drawn0.step)⟩
   ·rw [if_neg c2] at H
    have c2b0 : (x0_1.toList == ([] : List UInt8)) = false := beq_eq_false_iff_ne.mpr c2
    have c2b1 : (x0_1.toList != ([] : List UInt8)) = true := bne_iff_ne.mpr c2
    replace H := Option.bind_eq_some_iff.mp H
    obtain ⟨⟨t115, t116⟩, A30, H⟩ := H
    replace H : (if 0 ≤ t116 then (if t116 ≤ (x0_1.size : Int) then (rootcellarref1_Count.l0 k1 (x0_1.extract (t116 : Int).toNat x0_1.size) (wrap64 (x3_1 + 1))) else (none)) else (none)) = some r := H
    have A3 := Aside0.mk A30
    clear A30
    by_cases c4 : 0 ≤ t116
    ·rw [if_pos c4] at H
     have c4b0 := eq_true c4
     have c4b1 : decide (0 ≤ t116) = true := decide_eq_true c4
     clear c4
     by_cases c5 : t116 ≤ (x0_1.size : Int)
     ·rw [if_pos c5] at H
      have c5b0 := eq_true c5
      have c5b1 : decide (t116 ≤ (x0_1.size : Int)) = true := decide_eq_true c5
      clear c5
      have H' := Aside0.mk H
      clear H
      go_wp2_with (first | ((with_reducible refine gate_callee (f := 27) rfl ?_); refine goesL_ (some 10) rfl rfl Tryd.func27 (by kernel_rfl) rfl #[.string x0_1] rfl (by (try simp only [List.map_toArray, List.map_cons, List.map_nil]); first | done | rfl | (simp only [List.length_drop, List.length_take]; rfl) | (rw [wrap_sum2 (by assumption)]; rfl)) ?_; (with_reducible refine (rootcellarref1_Rune.calls k1 x0_1 t115 t116 _ A3.out).mono ?_); rintro e w' ⟨rfl, ⟨nd, rfl⟩⟩; refine ⟨_, rfl, ?_⟩))
      go_roundg k1
      case measure => have := HK1.out; omega
      case rel => exact ⟨(x0_1.extract (t116 : Int).toNat x0_1.size), (wrap64 (x3_1 + 1)), (by first | rfl | (simp; done) | (simp [*]; done)), (by first | rfl | (simp; done) | (simp [*]; done)), H', ⟨by have := HK1.out; omega⟩, by repeat (first | exact Drawn0.refl _ | apply Drawn0.step)⟩
     ·rw [if_neg c5] at H
      exact absurd H (by simp)
    ·rw [if_neg c4] at H
     exact absurd H (by simp)

end Go.Proofs.YtapkghkcaflkmaaDoor.Fn
end
section
-- Written by printx.py, a program of this session over the kit's print: each Go function as a plain Lean function, and that the Go code computes it.



namespace Go.Proofs.YtapkghkcaflkmaaDoor.Fn
open Go.RowKit Go.Proofs.YtapkghkcaflkmaaDoorW.PrintWords Go.Proofs.YtapkghkcaflkmaaDoorW.PrintLast Go.Proofs.YtapkghkcaflkmaaDoorW.PrintMore Go.Proofs.YtapkghkcaflkmaaDoor.Lf
attribute [local go_sem] max2_int min2_int max_two min_two max_three min_three max_four min_four   -- for this text's walks alone
set_option linter.unusedVariables false
set_option linter.unusedSimpArgs false

/-! ### rootcellarref1_Right: function 19 -/
mutual
def rootcellarref1_Right.j0 : Nat → ByteArray → Bool → Option (Bool)
 | 0, _, _ => none
 | k + 1, x0, x30 => if x30 = true then (some false) else (rootcellarref1_Right.l0 k x0 0)
def rootcellarref1_Right.l0 : Nat → ByteArray → Int → Option (Bool)
 | 0, _, _ => none
 | k + 1, x0, x4 => if x4 < (x0.size : Int) then (if 0 ≤ x4 then (if (bt x0 x4) < 32 then (some false) else (if (bt x0 x4) = 127 then (some false) else (rootcellarref1_Right.l0 k x0 (wrap64 (x4 + 1))))) else (none)) else (some true)
end
def rootcellarref1_Right.f (k : Nat) (a0 : ByteArray) : Option (Bool) := (rootcellarref1_Valid.f k a0).bind fun t143 => (if t143 = true then (if a0.toList = ([] : List UInt8) then (rootcellarref1_Right.j0 k a0 true) else ((rootcellarref1_Count.f k a0).bind fun t144 => (if t144 > 24 then (rootcellarref1_Right.j0 k a0 true) else (if 0 < (a0.size : Int) then (if (bt a0 0) = 32 then (rootcellarref1_Right.j0 k a0 true) else (if 0 ≤ (wrap64 ((a0.size : Int) - 1)) then (if (wrap64 ((a0.size : Int) - 1)) < (a0.size : Int) then (rootcellarref1_Right.j0 k a0 ((bt a0 (wrap64 ((a0.size : Int) - 1))) == 32)) else (none)) else (none))) else (none))))) else (rootcellarref1_Right.j0 k a0 true))
theorem rootcellarref1_Right.mono_l : ∀ k, (∀ y0 y1, LeO (rootcellarref1_Right.j0 k y0 y1) (rootcellarref1_Right.j0 (k + 1) y0 y1)) ∧ (∀ y0 y1, LeO (rootcellarref1_Right.l0 k y0 y1) (rootcellarref1_Right.l0 (k + 1) y0 y1))
 | 0 => ⟨fun _ _ r h => by simp [rootcellarref1_Right.j0] at h, fun _ _ r h => by simp [rootcellarref1_Right.l0] at h⟩
 | k + 1 => by
  obtain ⟨ih0, ih1⟩ := rootcellarref1_Right.mono_l k
  refine ⟨?_, ?_⟩
  ·intro y0 y1
   unfold rootcellarref1_Right.j0
   repeat' first
   | (with_reducible exact ih0 _ _)
   | (with_reducible exact ih1 _ _)
   | (with_reducible exact rootcellarref1_Count.mono _ _)
   | (with_reducible exact rootcellarref1_Valid.mono _ _)
   | (with_reducible exact LeO.refl _)
   | (with_reducible exact LeO.none _)
   | (with_reducible refine LeO.ite ?_ ?_)
   | (with_reducible refine LeO.bind ?_ (fun _ => ?_))
   | exact ih0 _ _
   | exact ih1 _ _
   | exact rootcellarref1_Count.mono _ _
   | exact rootcellarref1_Valid.mono _ _
   | exact LeO.none _
   | refine LeO.ite ?_ ?_
   | refine LeO.bind ?_ (fun _ => ?_)
  ·intro y0 y1
   unfold rootcellarref1_Right.l0
   repeat' first
   | (with_reducible exact ih0 _ _)
   | (with_reducible exact ih1 _ _)
   | (with_reducible exact rootcellarref1_Count.mono _ _)
   | (with_reducible exact rootcellarref1_Valid.mono _ _)
   | (with_reducible exact LeO.refl _)
   | (with_reducible exact LeO.none _)
   | (with_reducible refine LeO.ite ?_ ?_)
   | (with_reducible refine LeO.bind ?_ (fun _ => ?_))
   | exact ih0 _ _
   | exact ih1 _ _
   | exact rootcellarref1_Count.mono _ _
   | exact rootcellarref1_Valid.mono _ _
   | exact LeO.none _
   | refine LeO.ite ?_ ?_
   | refine LeO.bind ?_ (fun _ => ?_)
theorem rootcellarref1_Right.mono : ∀ a0 k, LeO (rootcellarref1_Right.f k a0) (rootcellarref1_Right.f (k + 1) a0) := by
 intro a0 k
 obtain ⟨ih0, ih1⟩ := rootcellarref1_Right.mono_l k
 unfold rootcellarref1_Right.f
 repeat' first
   | (with_reducible exact ih0 _ _)
   | (with_reducible exact ih1 _ _)
   | (with_reducible exact rootcellarref1_Count.mono _ _)
   | (with_reducible exact rootcellarref1_Valid.mono _ _)
   | (with_reducible exact LeO.refl _)
   | (with_reducible exact LeO.none _)
   | (with_reducible refine LeO.ite ?_ ?_)
   | (with_reducible refine LeO.bind ?_ (fun _ => ?_))
   | exact ih0 _ _
   | exact ih1 _ _
   | exact rootcellarref1_Count.mono _ _
   | exact rootcellarref1_Valid.mono _ _
   | exact LeO.none _
   | refine LeO.ite ?_ ?_
   | refine LeO.bind ?_ (fun _ => ?_)
set_option maxHeartbeats 8000000 in
set_option maxRecDepth 100000 in
theorem rootcellarref1_Right.calls (k : Nat) (a0 : ByteArray) (r : Bool) (w : World) (h : rootcellarref1_Right.f k a0 = some r) :
  Calls Tryd.prog 19 #[.string a0] w fun e w' => e = .returned (.bool r) ∧ Drawn0 w w' := by
 have H : ((rootcellarref1_Valid.f k a0).bind fun t143 => (if t143 = true then (if a0.toList = ([] : List UInt8) then (rootcellarref1_Right.j0 k a0 true) else ((rootcellarref1_Count.f k a0).bind fun t144 => (if t144 > 24 then (rootcellarref1_Right.j0 k a0 true) else (if 0 < (a0.size : Int) then (if (bt a0 0) = 32 then (rootcellarref1_Right.j0 k a0 true) else (if 0 ≤ (wrap64 ((a0.size : Int) - 1)) then (if (wrap64 ((a0.size : Int) - 1)) < (a0.size : Int) then (rootcellarref1_Right.j0 k a0 ((bt a0 (wrap64 ((a0.size : Int) - 1))) == 32)) else (none)) else (none))) else (none))))) else (rootcellarref1_Right.j0 k a0 true))) = some r := h
 clear h
 replace H := Option.bind_eq_some_iff.mp H
 obtain ⟨t143, A20, H⟩ := H
 replace H : (if t143 = true then (if a0.toList = ([] : List UInt8) then (rootcellarref1_Right.j0 k a0 true) else ((rootcellarref1_Count.f k a0).bind fun t144 => (if t144 > 24 then (rootcellarref1_Right.j0 k a0 true) else (if 0 < (a0.size : Int) then (if (bt a0 0) = 32 then (rootcellarref1_Right.j0 k a0 true) else (if 0 ≤ (wrap64 ((a0.size : Int) - 1)) then (if (wrap64 ((a0.size : Int) - 1)) < (a0.size : Int) then (rootcellarref1_Right.j0 k a0 ((bt a0 (wrap64 ((a0.size : Int) - 1))) == 32)) else (none)) else (none))) else (none))))) else (rootcellarref1_Right.j0 k a0 true)) = some r := H
 have A2 := Aside0.mk A20
 clear A20
 have HC3 := Aside0.mk H
 clear H
 go_enter Tryd.func19, Tryd.ntmps19
 go_upto_region 2 with (first | ((with_reducible refine gate_callee (f := 13) rfl ?_); refine goesL_ (some 6) rfl rfl Tryd.func13 (by kernel_rfl) rfl #[.string a0] rfl (by (try simp only [List.map_toArray, List.map_cons, List.map_nil]); first | done | rfl | (simp only [List.length_drop, List.length_take]; rfl) | (rw [wrap_sum2 (by assumption)]; rfl)) ?_; (with_reducible refine (rootcellarref1_Valid.calls k a0 t143 _ A2.out).mono ?_); rintro e w' ⟨rfl, ⟨nd, rfl⟩⟩; refine ⟨_, rfl, ?_⟩))
 (try simp only [Act.put, List.setIfInBounds_toArray, List.set_cons_zero, List.set_cons_succ])
 go_cut [30] (fun v30 wc => ∃ (kq : Nat) (x30_2 : Bool), v30 = .bool x30_2 ∧ Aside0 (rootcellarref1_Right.j0 kq a0 x30_2 = some r) ∧ Aside0 (kq ≤ k) ∧ Drawn0 w wc)
 case first =>
  have H := HC3.out
  clear HC3
  by_cases c4 : t143 = true
  ·subst c4
   have H1 : (if a0.toList = ([] : List UInt8) then (rootcellarref1_Right.j0 k a0 true) else ((rootcellarref1_Count.f k a0).bind fun t144 => (if t144 > 24 then (rootcellarref1_Right.j0 k a0 true) else (if 0 < (a0.size : Int) then (if (bt a0 0) = 32 then (rootcellarref1_Right.j0 k a0 true) else (if 0 ≤ (wrap64 ((a0.size : Int) - 1)) then (if (wrap64 ((a0.size : Int) - 1)) < (a0.size : Int) then (rootcellarref1_Right.j0 k a0 ((bt a0 (wrap64 ((a0.size : Int) - 1))) == 32)) else (none)) else (none))) else (none))))) = some r := by rw [if_pos rfl] at H; exact H
   clear H
   have H := H1
   clear H1
   by_cases c5 : a0.toList = ([] : List UInt8)
   ·rw [if_pos c5] at H
    have c5b0 : (a0.toList == ([] : List UInt8)) = true := beq_iff_eq.mpr c5
    have c5b1 : (a0.toList != ([] : List UInt8)) = false := bne_eq_false_iff_eq.mpr c5
    clear c5
    (first | rw [c5b0] | (simp only [i64_w, i32_w]; rw [c5b0]) | skip)
    have H' := Aside0.mk H
    clear H
    go_wp2
    go_meet
    case rel => exact ⟨_, (true), (by first | rfl | (simp; done) | (simp [*]; done)), H', ⟨by first | omega | exact Nat.le_refl _⟩, by repeat (first | exact Drawn0.refl _ | apply Drawn0.step)⟩
   ·rw [if_neg c5] at H
    have c5b0 : (a0.toList == ([] : List UInt8)) = false := beq_eq_false_iff_ne.mpr c5
    have c5b1 : (a0.toList != ([] : List UInt8)) = true := bne_iff_ne.mpr c5
    (first | rw [c5b0] | (simp only [i64_w, i32_w]; rw [c5b0]) | skip)
    replace H := Option.bind_eq_some_iff.mp H
    obtain ⟨t144, A60, H⟩ := H
    replace H : (if t144 > 24 then (rootcellarref1_Right.j0 k a0 true) else (if 0 < (a0.size : Int) then (if (bt a0 0) = 32 then (rootcellarref1_Right.j0 k a0 true) else (if 0 ≤ (wrap64 ((a0.size : Int) - 1)) then (if (wrap64 ((a0.size : Int) - 1)) < (a0.size : Int) then (rootcellarref1_Right.j0 k a0 ((bt a0 (wrap64 ((a0.size : Int) - 1))) == 32)) else (none)) else (none))) else (none))) = some r := H
    have A6 := Aside0.mk A60
    clear A60
    by_cases c7 : t144 > 24
    ·rw [if_pos c7] at H
     have c7b0 : decide (24 < t144) = true := decide_eq_true c7
     clear c7
     have H' := Aside0.mk H
     clear H
     go_wp2_with (first | (go_at_call 15; (with_reducible refine (rootcellarref1_Count.calls k a0 t144 _ A6.out).mono ?_); rintro e w' ⟨rfl, ⟨nd, rfl⟩⟩))
     go_meet
     case rel => exact ⟨_, (true), (by first | rfl | (simp; done) | (simp [*]; done)), H', ⟨by first | omega | exact Nat.le_refl _⟩, by repeat (first | exact Drawn0.refl _ | apply Drawn0.step)⟩
    ·rw [if_neg c7] at H
     have c7b0 : decide (24 < t144) = false := decide_eq_false c7
     clear c7
     by_cases c8 : 0 < (a0.size : Int)
     ·rw [if_pos c8] at H
      have c8b0 : decide (0 < (a0.size : Int)) = true := decide_eq_true c8
      have c8b1 : decide (0 < a0.size) = true := decide_eq_true (by omega)
      clear c8
      by_cases c10 : (bt a0 0) = 32
      ·rw [if_pos c10] at H
       have c10b0 : ((bt a0 0) == 32) = true := beq_iff_eq.mpr c10
       have c10b1 : ((bt a0 0) != 32) = false := bne_eq_false_iff_eq.mpr c10
       clear c10
       have H' := Aside0.mk H
       clear H
       go_wp2_with (first | (go_at_call 15; (with_reducible refine (rootcellarref1_Count.calls k a0 t144 _ A6.out).mono ?_); rintro e w' ⟨rfl, ⟨nd, rfl⟩⟩; have p9 : 0 ≤ (0 : Int) := (by omega); have q9 : 0 < a0.size := (by have : (0 : Int) < (a0.size : Int) := of_decide_eq_true (by first | (with_reducible assumption) | assumption); omega); have hx9 : ∀ h : 0 < a0.size, ((a0[0]'h).toNat : Int) = bt a0 0 := bt_at a0 0; clear p9; have qi9 : (0 < (a0.size : Int)) = True := eq_true (of_decide_eq_true (by first | (with_reducible assumption) | assumption)); replace q9 := eq_true q9))
       go_meet
       case rel => exact ⟨_, (true), (by first | rfl | (simp; done) | (simp [*]; done)), H', ⟨by first | omega | exact Nat.le_refl _⟩, by repeat (first | exact Drawn0.refl _ | apply Drawn0.step)⟩
      ·rw [if_neg c10] at H
       have c10b0 : ((bt a0 0) == 32) = false := beq_eq_false_iff_ne.mpr c10
       have c10b1 : ((bt a0 0) != 32) = true := bne_iff_ne.mpr c10
       obtain ⟨ji11, hji11⟩ : ∃ j_ : Int, (wrap64 ((a0.size : Int) - 1)) = j_ := ⟨_, rfl⟩
       replace H : (if 0 ≤ (ji11) then (if (ji11) < (a0.size : Int) then (rootcellarref1_Right.j0 k a0 ((bt a0 (ji11)) == 32)) else (none)) else (none)) = some r := by first | (rw [hji11] at H; exact H) | (simp only [hji11] at H ⊢; exact H)
       (try rw [hji11] at A6)
       have hji11w : (IntKind.i64.wrap ((a0.size : Int) - 1)) = ji11 := (i64_w _).trans hji11
       by_cases c12 : 0 ≤ (ji11)
       ·rw [if_pos c12] at H
        have c12b0 : decide (0 ≤ (ji11)) = true := decide_eq_true c12
        clear c12
        by_cases c13 : (ji11) < (a0.size : Int)
        ·rw [if_pos c13] at H
         have c13b0 : decide ((ji11) < (a0.size : Int)) = true := decide_eq_true c13
         clear c13
         have H' := Aside0.mk H
         clear H
         go_wp2_with (first | (go_at_call 15; (with_reducible refine (rootcellarref1_Count.calls k a0 t144 _ A6.out).mono ?_); rintro e w' ⟨rfl, ⟨nd, rfl⟩⟩; have p9 : 0 ≤ (0 : Int) := (by omega); have q9 : 0 < a0.size := (by have : (0 : Int) < (a0.size : Int) := of_decide_eq_true (by first | (with_reducible assumption) | assumption); omega); have hx9 : ∀ h : 0 < a0.size, ((a0[0]'h).toNat : Int) = bt a0 0 := bt_at a0 0; clear p9; have qi9 : (0 < (a0.size : Int)) = True := eq_true (of_decide_eq_true (by first | (with_reducible assumption) | assumption)); replace q9 := eq_true q9; have p14 : 0 ≤ ((ji11) : Int) := of_decide_eq_true (by first | (with_reducible assumption) | assumption); have q14 : (ji11) < (a0.size : Int) := of_decide_eq_true (by first | (with_reducible assumption) | assumption); have hx14 := bt_at a0 (ji11); replace p14 := eq_true p14; replace q14 := eq_true q14))
         go_meet
         case rel => exact ⟨_, (((bt a0 (ji11)) == 32)), (by first | rfl | (simp; done) | (simp only [← hji11] <;> (first | rfl | simp)) | (simp [*]; done)), H', ⟨by first | omega | exact Nat.le_refl _⟩, by repeat (first | exact Drawn0.refl _ | apply Drawn0.step)⟩
        ·rw [if_neg c13] at H
         exact absurd H (by simp)
       ·rw [if_neg c12] at H
        exact absurd H (by simp)
     ·rw [if_neg c8] at H
      exact absurd H (by simp)
  ·replace c4 := Bool.eq_false_iff.mpr c4
   subst c4
   have H1 : (rootcellarref1_Right.j0 k a0 true) = some r := by rw [if_neg (show ¬ (false = true) by decide)] at H; exact H
   clear H
   have H := H1
   clear H1
   have H' := Aside0.mk H
   clear H
   go_wp2
   go_meet
   case rel => exact ⟨_, (true), (by first | rfl | (simp; done) | (simp [*]; done)), H', ⟨by first | omega | exact Nat.le_refl _⟩, by repeat (first | exact Drawn0.refl _ | apply Drawn0.step)⟩
 case rest =>
  clear HC3
  try clear c1
  try clear p1
  try clear q1
  try clear hx1
  try clear p2
  try clear c4
  try clear c5
  try clear c5b0
  try clear c5b1
  try clear p6
  try clear c7
  try clear c7b0
  try clear c8
  try clear c8b0
  try clear c8b1
  try clear p9
  try clear q9
  try clear hx9
  try clear qi9
  try clear c10
  try clear c10b0
  try clear c10b1
  try clear c12
  try clear c12b0
  try clear c13
  try clear c13b0
  try clear p14
  try clear q14
  try clear hx14
  try clear p14
  try clear p9
  try clear q14
  try clear q9
  obtain ⟨kq, x30_2, rfl, HA, HJ2, ⟨mc2, rfl⟩⟩ := hcut
  cases kq with
  | zero => exact absurd HA.out (by simp [rootcellarref1_Right.j0])
  | succ kj2 =>
   have H := HA.out
   clear HA
   simp only [rootcellarref1_Right.j0] at H
   by_cases c15 : x30_2 = true
   ·subst c15
    have H1 : (some false) = some r := by rw [if_pos rfl] at H; exact H
    clear H
    have H := H1
    clear H1
    obtain rfl := Option.some.inj H
    go_wp2
    go_ret
    exact ⟨by first | rfl | (simp; done) | (simp [*]; done), by repeat (first | exact Drawn0.refl _ | apply Drawn0.step)⟩
   ·replace c15 := Bool.eq_false_iff.mpr c15
    subst c15
    have H1 : (rootcellarref1_Right.l0 kj2 a0 0) = some r := by rw [if_neg (show ¬ (false = true) by decide)] at H; exact H
    clear H
    have H := H1
    clear H1
    have H' := Aside0.mk H
    clear H
    go_wp2
    go_loopg [4] kj2 (fun kq v4 w' => ∃ (x4_2 : Int), v4 = .int .i64 x4_2 ∧ Aside0 (rootcellarref1_Right.l0 kq a0 x4_2 = some r) ∧ Aside0 (kq ≤ kj2) ∧ Drawn0 w w')
    case atStart => exact ⟨(0), (by first | rfl | (simp; done) | (simp [*]; done)), H', ⟨Nat.le_refl _⟩, by repeat (first | exact Drawn0.refl _ | apply Drawn0.step)⟩
    case round =>
     clear H'
     try clear c1
     try clear p1
     try clear q1
     try clear hx1
     try clear c2
     try clear p2
     try clear c4
     try clear c5
     try clear c5b0
     try clear c5b1
     try clear p6
     try clear c7
     try clear c7b0
     try clear c8
     try clear c8b0
     try clear c8b1
     try clear p9
     try clear q9
     try clear hx9
     try clear qi9
     try clear c10
     try clear c10b0
     try clear c10b1
     try clear c12
     try clear c12b0
     try clear c13
     try clear c13b0
     try clear p14
     try clear q14
     try clear hx14
     try clear c15
     try clear p1
     try clear p14
     try clear p2
     try clear p6
     try clear p9
     try clear q1
     try clear q14
     try clear q9
     obtain ⟨x4_2, rfl, HA, HK2, ⟨m2, rfl⟩⟩ := hrel
     cases gk with
     | zero => exact absurd HA.out (by simp [rootcellarref1_Right.l0])
     | succ k2 =>
      have H := HA.out
      clear HA
      simp only [rootcellarref1_Right.l0] at H
      by_cases c16 : x4_2 < (a0.size : Int)
      ·rw [if_pos c16] at H
       have c16b0 : decide (x4_2 < (a0.size : Int)) = true := decide_eq_true c16
       clear c16
       by_cases c17 : 0 ≤ x4_2
       ·rw [if_pos c17] at H
        have c17b0 : decide (0 ≤ x4_2) = true := decide_eq_true c17
        clear c17
        by_cases c19 : (bt a0 x4_2) < 32
        ·rw [if_pos c19] at H
         have c19b0 : decide ((bt a0 x4_2) < 32) = true := decide_eq_true c19
         clear c19
         obtain rfl := Option.some.inj H
         have p18 : 0 ≤ (x4_2 : Int) := of_decide_eq_true (by first | (with_reducible assumption) | assumption)
         have q18 : x4_2 < (a0.size : Int) := of_decide_eq_true (by first | (with_reducible assumption) | assumption)
         have hx18 := bt_at a0 x4_2
         replace p18 := eq_true p18
         replace q18 := eq_true q18
         go_wp2
         go_ret
         exact ⟨by first | rfl | (simp; done) | (simp [*]; done), by repeat (first | exact Drawn0.refl _ | apply Drawn0.step)⟩
        ·rw [if_neg c19] at H
         have c19b0 : decide ((bt a0 x4_2) < 32) = false := decide_eq_false c19
         clear c19
         by_cases c21 : (bt a0 x4_2) = 127
         ·rw [if_pos c21] at H
          have c21b0 : ((bt a0 x4_2) == 127) = true := beq_iff_eq.mpr c21
          have c21b1 : ((bt a0 x4_2) != 127) = false := bne_eq_false_iff_eq.mpr c21
          clear c21
          obtain rfl := Option.some.inj H
          have p18 : 0 ≤ (x4_2 : Int) := of_decide_eq_true (by first | (with_reducible assumption) | assumption)
          have q18 : x4_2 < (a0.size : Int) := of_decide_eq_true (by first | (with_reducible assumption) | assumption)
          have hx18 := bt_at a0 x4_2
          replace p18 := eq_true p18
          replace q18 := eq_true q18
          have p20 : 0 ≤ (x4_2 : Int) := of_decide_eq_true (by first | (with_reducible assumption) | assumption)
          have q20 : x4_2 < (a0.size : Int) := of_decide_eq_true (by first | (with_reducible assumption) | assumption)
          have hx20 := bt_at a0 x4_2
          replace p20 := eq_true p20
          replace q20 := eq_true q20
          go_wp2
          go_ret
          exact ⟨by first | rfl | (simp; done) | (simp [*]; done), by repeat (first | exact Drawn0.refl _ | apply Drawn0.step)⟩
         ·rw [if_neg c21] at H
          have c21b0 : ((bt a0 x4_2) == 127) = false := beq_eq_false_iff_ne.mpr c21
          have c21b1 : ((bt a0 x4_2) != 127) = true := bne_iff_ne.mpr c21
          have H' := Aside0.mk H
          clear H
          have p18 : 0 ≤ (x4_2 : Int) := of_decide_eq_true (by first | (with_reducible assumption) | assumption)
          have q18 : x4_2 < (a0.size : Int) := of_decide_eq_true (by first | (with_reducible assumption) | assumption)
          have hx18 := bt_at a0 x4_2
          replace p18 := eq_true p18
          replace q18 := eq_true q18
          have p20 : 0 ≤ (x4_2 : Int) := of_decide_eq_true (by first | (with_reducible assumption) | assumption)
          have q20 : x4_2 < (a0.size : Int) := of_decide_eq_true (by first | (with_reducible assumption) | assumption)
          have hx20 := bt_at a0 x4_2
          replace p20 := eq_true p20
          replace q20 := eq_true q20
          go_wp2
          go_roundg k2
          case measure => have := HJ2.out; have := HK2.out; omega
          case rel => exact ⟨(wrap64 (x4_2 + 1)), (by first | rfl | (simp; done) | (simp [*]; done)), H', ⟨by have := HJ2.out; have := HK2.out; omega⟩, by repeat (first | exact Drawn0.refl _ | apply Drawn0.step)⟩
       ·rw [if_neg c17] at H
        exact absurd H (by simp)
      ·rw [if_neg c16] at H
       have c16b0 : decide (x4_2 < (a0.size : Int)) = false := decide_eq_false c16
       clear c16
       obtain rfl := Option.some.inj H
       go_wp2
       go_ret
       exact ⟨by first | rfl | (simp; done) | (simp [*]; done), by repeat (first | exact Drawn0.refl _ | apply Drawn0.step)⟩

end Go.Proofs.YtapkghkcaflkmaaDoor.Fn
end
section
-- Written by printx.py, a program of this session over the kit's print: each Go function as a plain Lean function, and that the Go code computes it.

namespace Go.Proofs.YtapkghkcaflkmaaDoor.Fn
open Go.RowKit Go.Proofs.YtapkghkcaflkmaaDoorW.PrintWords Go.Proofs.YtapkghkcaflkmaaDoorW.PrintLast Go.Proofs.YtapkghkcaflkmaaDoorW.PrintMore Go.Proofs.YtapkghkcaflkmaaDoor.Lf
attribute [local go_sem] max2_int min2_int max_two min_two max_three min_three max_four min_four   -- for this text's walks alone
set_option linter.unusedVariables false
set_option linter.unusedSimpArgs false

/-! ### rootcellarlaw1_shown: function 11 -/
def rootcellarlaw1_shown.f  : Option (Bool) := (label_Count.f (⟨#[97, 195, 169]⟩ : ByteArray)).bind fun t101 => (if t101 = 2 then ((label_First.f (⟨#[195, 169, 97]⟩ : ByteArray) 1).bind fun t102 => (if t102.toList = ([195, 169] : List UInt8) then ((label_Quote.f (⟨#[97, 32, 195, 169, 92]⟩ : ByteArray)).bind fun t103 => (if t103.toList = ([97, 92, 123, 50, 48, 125, 92, 123, 101, 57, 125, 92, 92] : List UInt8) then ((label_Quote.f (⟨#[255]⟩ : ByteArray)).bind fun t104 => (if t104.toList = ([92, 33, 102, 102] : List UInt8) then ((label_Right.f (⟨#[98, 101, 102, 111, 114, 101, 32, 108, 117, 110, 99, 104]⟩ : ByteArray)).bind fun t105 => (if t105 = true then ((label_Right.f (⟨#[32, 120]⟩ : ByteArray)).bind fun t106 => (some (!t106))) else (some false))) else (some false))) else (some false))) else (some false))) else (some false))
set_option maxHeartbeats 8000000 in
set_option maxRecDepth 100000 in
theorem rootcellarlaw1_shown.calls  (r : Bool) (w : World) (h : rootcellarlaw1_shown.f  = some r) (HT : Tabs w) :
  Calls Tryd.prog 11 #[] w fun e w' => e = .returned (.bool r) ∧ Below w.heap.size w w' := by
 have HB := Aside0.mk (Below.refl w.heap.size w)
 have H : ((label_Count.f (⟨#[97, 195, 169]⟩ : ByteArray)).bind fun t101 => (if t101 = 2 then ((label_First.f (⟨#[195, 169, 97]⟩ : ByteArray) 1).bind fun t102 => (if t102.toList = ([195, 169] : List UInt8) then ((label_Quote.f (⟨#[97, 32, 195, 169, 92]⟩ : ByteArray)).bind fun t103 => (if t103.toList = ([97, 92, 123, 50, 48, 125, 92, 123, 101, 57, 125, 92, 92] : List UInt8) then ((label_Quote.f (⟨#[255]⟩ : ByteArray)).bind fun t104 => (if t104.toList = ([92, 33, 102, 102] : List UInt8) then ((label_Right.f (⟨#[98, 101, 102, 111, 114, 101, 32, 108, 117, 110, 99, 104]⟩ : ByteArray)).bind fun t105 => (if t105 = true then ((label_Right.f (⟨#[32, 120]⟩ : ByteArray)).bind fun t106 => (some (!t106))) else (some false))) else (some false))) else (some false))) else (some false))) else (some false))) = some r := h
 clear h
 replace H := Option.bind_eq_some_iff.mp H
 obtain ⟨t101, A10, H⟩ := H
 replace H : (if t101 = 2 then ((label_First.f (⟨#[195, 169, 97]⟩ : ByteArray) 1).bind fun t102 => (if t102.toList = ([195, 169] : List UInt8) then ((label_Quote.f (⟨#[97, 32, 195, 169, 92]⟩ : ByteArray)).bind fun t103 => (if t103.toList = ([97, 92, 123, 50, 48, 125, 92, 123, 101, 57, 125, 92, 92] : List UInt8) then ((label_Quote.f (⟨#[255]⟩ : ByteArray)).bind fun t104 => (if t104.toList = ([92, 33, 102, 102] : List UInt8) then ((label_Right.f (⟨#[98, 101, 102, 111, 114, 101, 32, 108, 117, 110, 99, 104]⟩ : ByteArray)).bind fun t105 => (if t105 = true then ((label_Right.f (⟨#[32, 120]⟩ : ByteArray)).bind fun t106 => (some (!t106))) else (some false))) else (some false))) else (some false))) else (some false))) else (some false)) = some r := H
 have A1 := Aside0.mk A10
 clear A10
 by_cases c2 : t101 = 2
 ·rw [if_pos c2] at H
  have c2b0 : (t101 == 2) = true := beq_iff_eq.mpr c2
  have c2b1 : (t101 != 2) = false := bne_eq_false_iff_eq.mpr c2
  clear c2
  replace H := Option.bind_eq_some_iff.mp H
  obtain ⟨t102, A30, H⟩ := H
  replace H : (if t102.toList = ([195, 169] : List UInt8) then ((label_Quote.f (⟨#[97, 32, 195, 169, 92]⟩ : ByteArray)).bind fun t103 => (if t103.toList = ([97, 92, 123, 50, 48, 125, 92, 123, 101, 57, 125, 92, 92] : List UInt8) then ((label_Quote.f (⟨#[255]⟩ : ByteArray)).bind fun t104 => (if t104.toList = ([92, 33, 102, 102] : List UInt8) then ((label_Right.f (⟨#[98, 101, 102, 111, 114, 101, 32, 108, 117, 110, 99, 104]⟩ : ByteArray)).bind fun t105 => (if t105 = true then ((label_Right.f (⟨#[32, 120]⟩ : ByteArray)).bind fun t106 => (some (!t106))) else (some false))) else (some false))) else (some false))) else (some false)) = some r := H
  have A3 := Aside0.mk A30
  clear A30
  by_cases c4 : t102.toList = ([195, 169] : List UInt8)
  ·rw [if_pos c4] at H
   have c4b0 : (t102.toList == ([195, 169] : List UInt8)) = true := beq_iff_eq.mpr c4
   have c4b1 : (t102.toList != ([195, 169] : List UInt8)) = false := bne_eq_false_iff_eq.mpr c4
   clear c4
   replace H := Option.bind_eq_some_iff.mp H
   obtain ⟨t103, A50, H⟩ := H
   replace H : (if t103.toList = ([97, 92, 123, 50, 48, 125, 92, 123, 101, 57, 125, 92, 92] : List UInt8) then ((label_Quote.f (⟨#[255]⟩ : ByteArray)).bind fun t104 => (if t104.toList = ([92, 33, 102, 102] : List UInt8) then ((label_Right.f (⟨#[98, 101, 102, 111, 114, 101, 32, 108, 117, 110, 99, 104]⟩ : ByteArray)).bind fun t105 => (if t105 = true then ((label_Right.f (⟨#[32, 120]⟩ : ByteArray)).bind fun t106 => (some (!t106))) else (some false))) else (some false))) else (some false)) = some r := H
   have A5 := Aside0.mk A50
   clear A50
   by_cases c6 : t103.toList = ([97, 92, 123, 50, 48, 125, 92, 123, 101, 57, 125, 92, 92] : List UInt8)
   ·rw [if_pos c6] at H
    have c6b0 : (t103.toList == ([97, 92, 123, 50, 48, 125, 92, 123, 101, 57, 125, 92, 92] : List UInt8)) = true := beq_iff_eq.mpr c6
    have c6b1 : (t103.toList != ([97, 92, 123, 50, 48, 125, 92, 123, 101, 57, 125, 92, 92] : List UInt8)) = false := bne_eq_false_iff_eq.mpr c6
    clear c6
    replace H := Option.bind_eq_some_iff.mp H
    obtain ⟨t104, A70, H⟩ := H
    replace H : (if t104.toList = ([92, 33, 102, 102] : List UInt8) then ((label_Right.f (⟨#[98, 101, 102, 111, 114, 101, 32, 108, 117, 110, 99, 104]⟩ : ByteArray)).bind fun t105 => (if t105 = true then ((label_Right.f (⟨#[32, 120]⟩ : ByteArray)).bind fun t106 => (some (!t106))) else (some false))) else (some false)) = some r := H
    have A7 := Aside0.mk A70
    clear A70
    by_cases c8 : t104.toList = ([92, 33, 102, 102] : List UInt8)
    ·rw [if_pos c8] at H
     have c8b0 : (t104.toList == ([92, 33, 102, 102] : List UInt8)) = true := beq_iff_eq.mpr c8
     have c8b1 : (t104.toList != ([92, 33, 102, 102] : List UInt8)) = false := bne_eq_false_iff_eq.mpr c8
     clear c8
     replace H := Option.bind_eq_some_iff.mp H
     obtain ⟨t105, A90, H⟩ := H
     replace H : (if t105 = true then ((label_Right.f (⟨#[32, 120]⟩ : ByteArray)).bind fun t106 => (some (!t106))) else (some false)) = some r := H
     have A9 := Aside0.mk A90
     clear A90
     by_cases c10 : t105 = true
     ·subst c10
      have H1 : ((label_Right.f (⟨#[32, 120]⟩ : ByteArray)).bind fun t106 => (some (!t106))) = some r := by rw [if_pos rfl] at H; exact H
      clear H
      have H := H1
      clear H1
      replace H := Option.bind_eq_some_iff.mp H
      obtain ⟨t106, A110, H⟩ := H
      replace H : (some (!t106)) = some r := H
      have A11 := Aside0.mk A110
      clear A110
      obtain rfl := Option.some.inj H
      go_enter Tryd.func11, Tryd.ntmps11
      go_wp2_with (first | ((with_reducible refine gate_callee (f := 14) rfl ?_); refine goesL_ (some 1) rfl rfl Tryd.func14 (by kernel_rfl) rfl #[.string (⟨#[97, 195, 169]⟩ : ByteArray)] rfl (by (try simp only [List.map_toArray, List.map_cons, List.map_nil]); first | done | rfl | (simp only [List.length_drop, List.length_take]; rfl) | (rw [wrap_sum2 (by assumption)]; rfl)) ?_; (with_reducible refine (label_Count.calls (⟨#[97, 195, 169]⟩ : ByteArray) t101 _ A1.out).mono ?_); rintro e w12 ⟨rfl, hb⟩; refine ⟨_, rfl, ?_⟩; have n0_ := Aside0.mk (below_step (by repeat (first | (with_reducible first | exact HB.out | apply below_alloc | apply pw_below_drewN | apply below_drew1) | exact HB.out)) hb); clear HB; have HB := n0_; clear n0_; (try clear hb); (try clear hb2); (try clear hk); (try clear hi)) | (go_at_call 16; (with_reducible refine (label_First.calls (⟨#[195, 169, 97]⟩ : ByteArray) 1 t102 _ A3.out).mono ?_); rintro e w13 ⟨rfl, hb⟩; have n0_ := Aside0.mk (below_step (by repeat (first | (with_reducible first | exact HB.out | apply below_alloc | apply pw_below_drewN | apply below_drew1) | exact HB.out)) hb); clear HB; have HB := n0_; clear n0_; (try clear hb); (try clear hb2); (try clear hk); (try clear hi)) | (go_at_call 22; (with_reducible refine (label_Quote.calls (⟨#[97, 32, 195, 169, 92]⟩ : ByteArray) t103 _ A5.out (HT.below (by repeat (first | (with_reducible first | exact HB.out | apply below_alloc | apply pw_below_drewN | apply below_drew1) | exact HB.out)))).mono ?_); rintro e w14 ⟨rfl, hb⟩; have n0_ := Aside0.mk (below_step (by repeat (first | (with_reducible first | exact HB.out | apply below_alloc | apply pw_below_drewN | apply below_drew1) | exact HB.out)) hb); clear HB; have HB := n0_; clear n0_; (try clear hb); (try clear hb2); (try clear hk); (try clear hi)) | (go_at_call 22; (with_reducible refine (label_Quote.calls (⟨#[255]⟩ : ByteArray) t104 _ A7.out (HT.below (by repeat (first | (with_reducible first | exact HB.out | apply below_alloc | apply pw_below_drewN | apply below_drew1) | exact HB.out)))).mono ?_); rintro e w15 ⟨rfl, hb⟩; have n0_ := Aside0.mk (below_step (by repeat (first | (with_reducible first | exact HB.out | apply below_alloc | apply pw_below_drewN | apply below_drew1) | exact HB.out)) hb); clear HB; have HB := n0_; clear n0_; (try clear hb); (try clear hb2); (try clear hk); (try clear hi)) | (go_at_call 18; (with_reducible refine (label_Right.calls (⟨#[98, 101, 102, 111, 114, 101, 32, 108, 117, 110, 99, 104]⟩ : ByteArray) true _ A9.out (HT.below (by repeat (first | (with_reducible first | exact HB.out | apply below_alloc | apply pw_below_drewN | apply below_drew1) | exact HB.out)))).mono ?_); rintro e w16 ⟨rfl, hb⟩; have n0_ := Aside0.mk (below_step (by repeat (first | (with_reducible first | exact HB.out | apply below_alloc | apply pw_below_drewN | apply below_drew1) | exact HB.out)) hb); clear HB; have HB := n0_; clear n0_; (try clear hb); (try clear hb2); (try clear hk); (try clear hi)) | (go_at_call 18; (with_reducible refine (label_Right.calls (⟨#[32, 120]⟩ : ByteArray) t106 _ A11.out (HT.below (by repeat (first | (with_reducible first | exact HB.out | apply below_alloc | apply pw_below_drewN | apply below_drew1) | exact HB.out)))).mono ?_); rintro e w17 ⟨rfl, hb⟩; have n0_ := Aside0.mk (below_step (by repeat (first | (with_reducible first | exact HB.out | apply below_alloc | apply pw_below_drewN | apply below_drew1) | exact HB.out)) hb); clear HB; have HB := n0_; clear n0_; (try clear hb); (try clear hb2); (try clear hk); (try clear hi)))
      go_ret
      exact ⟨by first | rfl | (simp [errW_none, errW_some] <;> rfl) | (simp [*, errW_none, errW_some] <;> rfl), by repeat (first | (with_reducible first | exact HB.out | apply below_alloc | apply pw_below_drewN | apply below_drew1) | exact HB.out)⟩
     ·replace c10 := Bool.eq_false_iff.mpr c10
      subst c10
      have H1 : (some false) = some r := by rw [if_neg (show ¬ (false = true) by decide)] at H; exact H
      clear H
      have H := H1
      clear H1
      obtain rfl := Option.some.inj H
      go_enter Tryd.func11, Tryd.ntmps11
      go_wp2_with (first | ((with_reducible refine gate_callee (f := 14) rfl ?_); refine goesL_ (some 1) rfl rfl Tryd.func14 (by kernel_rfl) rfl #[.string (⟨#[97, 195, 169]⟩ : ByteArray)] rfl (by (try simp only [List.map_toArray, List.map_cons, List.map_nil]); first | done | rfl | (simp only [List.length_drop, List.length_take]; rfl) | (rw [wrap_sum2 (by assumption)]; rfl)) ?_; (with_reducible refine (label_Count.calls (⟨#[97, 195, 169]⟩ : ByteArray) t101 _ A1.out).mono ?_); rintro e w18 ⟨rfl, hb⟩; refine ⟨_, rfl, ?_⟩; have n0_ := Aside0.mk (below_step (by repeat (first | (with_reducible first | exact HB.out | apply below_alloc | apply pw_below_drewN | apply below_drew1) | exact HB.out)) hb); clear HB; have HB := n0_; clear n0_; (try clear hb); (try clear hb2); (try clear hk); (try clear hi)) | (go_at_call 16; (with_reducible refine (label_First.calls (⟨#[195, 169, 97]⟩ : ByteArray) 1 t102 _ A3.out).mono ?_); rintro e w19 ⟨rfl, hb⟩; have n0_ := Aside0.mk (below_step (by repeat (first | (with_reducible first | exact HB.out | apply below_alloc | apply pw_below_drewN | apply below_drew1) | exact HB.out)) hb); clear HB; have HB := n0_; clear n0_; (try clear hb); (try clear hb2); (try clear hk); (try clear hi)) | (go_at_call 22; (with_reducible refine (label_Quote.calls (⟨#[97, 32, 195, 169, 92]⟩ : ByteArray) t103 _ A5.out (HT.below (by repeat (first | (with_reducible first | exact HB.out | apply below_alloc | apply pw_below_drewN | apply below_drew1) | exact HB.out)))).mono ?_); rintro e w20 ⟨rfl, hb⟩; have n0_ := Aside0.mk (below_step (by repeat (first | (with_reducible first | exact HB.out | apply below_alloc | apply pw_below_drewN | apply below_drew1) | exact HB.out)) hb); clear HB; have HB := n0_; clear n0_; (try clear hb); (try clear hb2); (try clear hk); (try clear hi)) | (go_at_call 22; (with_reducible refine (label_Quote.calls (⟨#[255]⟩ : ByteArray) t104 _ A7.out (HT.below (by repeat (first | (with_reducible first | exact HB.out | apply below_alloc | apply pw_below_drewN | apply below_drew1) | exact HB.out)))).mono ?_); rintro e w21 ⟨rfl, hb⟩; have n0_ := Aside0.mk (below_step (by repeat (first | (with_reducible first | exact HB.out | apply below_alloc | apply pw_below_drewN | apply below_drew1) | exact HB.out)) hb); clear HB; have HB := n0_; clear n0_; (try clear hb); (try clear hb2); (try clear hk); (try clear hi)) | (go_at_call 18; (with_reducible refine (label_Right.calls (⟨#[98, 101, 102, 111, 114, 101, 32, 108, 117, 110, 99, 104]⟩ : ByteArray) false _ A9.out (HT.below (by repeat (first | (with_reducible first | exact HB.out | apply below_alloc | apply pw_below_drewN | apply below_drew1) | exact HB.out)))).mono ?_); rintro e w22 ⟨rfl, hb⟩; have n0_ := Aside0.mk (below_step (by repeat (first | (with_reducible first | exact HB.out | apply below_alloc | apply pw_below_drewN | apply below_drew1) | exact HB.out)) hb); clear HB; have HB := n0_; clear n0_; (try clear hb); (try clear hb2); (try clear hk); (try clear hi)))
      go_ret
      exact ⟨by first | rfl | (simp [errW_none, errW_some] <;> rfl) | (simp [*, errW_none, errW_some] <;> rfl), by repeat (first | (with_reducible first | exact HB.out | apply below_alloc | apply pw_below_drewN | apply below_drew1) | exact HB.out)⟩
    ·rw [if_neg c8] at H
     have c8b0 : (t104.toList == ([92, 33, 102, 102] : List UInt8)) = false := beq_eq_false_iff_ne.mpr c8
     have c8b1 : (t104.toList != ([92, 33, 102, 102] : List UInt8)) = true := bne_iff_ne.mpr c8
     obtain rfl := Option.some.inj H
     go_enter Tryd.func11, Tryd.ntmps11
     go_wp2_with (first | ((with_reducible refine gate_callee (f := 14) rfl ?_); refine goesL_ (some 1) rfl rfl Tryd.func14 (by kernel_rfl) rfl #[.string (⟨#[97, 195, 169]⟩ : ByteArray)] rfl (by (try simp only [List.map_toArray, List.map_cons, List.map_nil]); first | done | rfl | (simp only [List.length_drop, List.length_take]; rfl) | (rw [wrap_sum2 (by assumption)]; rfl)) ?_; (with_reducible refine (label_Count.calls (⟨#[97, 195, 169]⟩ : ByteArray) t101 _ A1.out).mono ?_); rintro e w23 ⟨rfl, hb⟩; refine ⟨_, rfl, ?_⟩; have n0_ := Aside0.mk (below_step (by repeat (first | (with_reducible first | exact HB.out | apply below_alloc | apply pw_below_drewN | apply below_drew1) | exact HB.out)) hb); clear HB; have HB := n0_; clear n0_; (try clear hb); (try clear hb2); (try clear hk); (try clear hi)) | (go_at_call 16; (with_reducible refine (label_First.calls (⟨#[195, 169, 97]⟩ : ByteArray) 1 t102 _ A3.out).mono ?_); rintro e w24 ⟨rfl, hb⟩; have n0_ := Aside0.mk (below_step (by repeat (first | (with_reducible first | exact HB.out | apply below_alloc | apply pw_below_drewN | apply below_drew1) | exact HB.out)) hb); clear HB; have HB := n0_; clear n0_; (try clear hb); (try clear hb2); (try clear hk); (try clear hi)) | (go_at_call 22; (with_reducible refine (label_Quote.calls (⟨#[97, 32, 195, 169, 92]⟩ : ByteArray) t103 _ A5.out (HT.below (by repeat (first | (with_reducible first | exact HB.out | apply below_alloc | apply pw_below_drewN | apply below_drew1) | exact HB.out)))).mono ?_); rintro e w25 ⟨rfl, hb⟩; have n0_ := Aside0.mk (below_step (by repeat (first | (with_reducible first | exact HB.out | apply below_alloc | apply pw_below_drewN | apply below_drew1) | exact HB.out)) hb); clear HB; have HB := n0_; clear n0_; (try clear hb); (try clear hb2); (try clear hk); (try clear hi)) | (go_at_call 22; (with_reducible refine (label_Quote.calls (⟨#[255]⟩ : ByteArray) t104 _ A7.out (HT.below (by repeat (first | (with_reducible first | exact HB.out | apply below_alloc | apply pw_below_drewN | apply below_drew1) | exact HB.out)))).mono ?_); rintro e w26 ⟨rfl, hb⟩; have n0_ := Aside0.mk (below_step (by repeat (first | (with_reducible first | exact HB.out | apply below_alloc | apply pw_below_drewN | apply below_drew1) | exact HB.out)) hb); clear HB; have HB := n0_; clear n0_; (try clear hb); (try clear hb2); (try clear hk); (try clear hi)))
     go_ret
     exact ⟨by first | rfl | (simp [errW_none, errW_some] <;> rfl) | (simp [*, errW_none, errW_some] <;> rfl), by repeat (first | (with_reducible first | exact HB.out | apply below_alloc | apply pw_below_drewN | apply below_drew1) | exact HB.out)⟩
   ·rw [if_neg c6] at H
    have c6b0 : (t103.toList == ([97, 92, 123, 50, 48, 125, 92, 123, 101, 57, 125, 92, 92] : List UInt8)) = false := beq_eq_false_iff_ne.mpr c6
    have c6b1 : (t103.toList != ([97, 92, 123, 50, 48, 125, 92, 123, 101, 57, 125, 92, 92] : List UInt8)) = true := bne_iff_ne.mpr c6
    obtain rfl := Option.some.inj H
    go_enter Tryd.func11, Tryd.ntmps11
    go_wp2_with (first | ((with_reducible refine gate_callee (f := 14) rfl ?_); refine goesL_ (some 1) rfl rfl Tryd.func14 (by kernel_rfl) rfl #[.string (⟨#[97, 195, 169]⟩ : ByteArray)] rfl (by (try simp only [List.map_toArray, List.map_cons, List.map_nil]); first | done | rfl | (simp only [List.length_drop, List.length_take]; rfl) | (rw [wrap_sum2 (by assumption)]; rfl)) ?_; (with_reducible refine (label_Count.calls (⟨#[97, 195, 169]⟩ : ByteArray) t101 _ A1.out).mono ?_); rintro e w27 ⟨rfl, hb⟩; refine ⟨_, rfl, ?_⟩; have n0_ := Aside0.mk (below_step (by repeat (first | (with_reducible first | exact HB.out | apply below_alloc | apply pw_below_drewN | apply below_drew1) | exact HB.out)) hb); clear HB; have HB := n0_; clear n0_; (try clear hb); (try clear hb2); (try clear hk); (try clear hi)) | (go_at_call 16; (with_reducible refine (label_First.calls (⟨#[195, 169, 97]⟩ : ByteArray) 1 t102 _ A3.out).mono ?_); rintro e w28 ⟨rfl, hb⟩; have n0_ := Aside0.mk (below_step (by repeat (first | (with_reducible first | exact HB.out | apply below_alloc | apply pw_below_drewN | apply below_drew1) | exact HB.out)) hb); clear HB; have HB := n0_; clear n0_; (try clear hb); (try clear hb2); (try clear hk); (try clear hi)) | (go_at_call 22; (with_reducible refine (label_Quote.calls (⟨#[97, 32, 195, 169, 92]⟩ : ByteArray) t103 _ A5.out (HT.below (by repeat (first | (with_reducible first | exact HB.out | apply below_alloc | apply pw_below_drewN | apply below_drew1) | exact HB.out)))).mono ?_); rintro e w29 ⟨rfl, hb⟩; have n0_ := Aside0.mk (below_step (by repeat (first | (with_reducible first | exact HB.out | apply below_alloc | apply pw_below_drewN | apply below_drew1) | exact HB.out)) hb); clear HB; have HB := n0_; clear n0_; (try clear hb); (try clear hb2); (try clear hk); (try clear hi)))
    go_ret
    exact ⟨by first | rfl | (simp [errW_none, errW_some] <;> rfl) | (simp [*, errW_none, errW_some] <;> rfl), by repeat (first | (with_reducible first | exact HB.out | apply below_alloc | apply pw_below_drewN | apply below_drew1) | exact HB.out)⟩
  ·rw [if_neg c4] at H
   have c4b0 : (t102.toList == ([195, 169] : List UInt8)) = false := beq_eq_false_iff_ne.mpr c4
   have c4b1 : (t102.toList != ([195, 169] : List UInt8)) = true := bne_iff_ne.mpr c4
   obtain rfl := Option.some.inj H
   go_enter Tryd.func11, Tryd.ntmps11
   go_wp2_with (first | ((with_reducible refine gate_callee (f := 14) rfl ?_); refine goesL_ (some 1) rfl rfl Tryd.func14 (by kernel_rfl) rfl #[.string (⟨#[97, 195, 169]⟩ : ByteArray)] rfl (by (try simp only [List.map_toArray, List.map_cons, List.map_nil]); first | done | rfl | (simp only [List.length_drop, List.length_take]; rfl) | (rw [wrap_sum2 (by assumption)]; rfl)) ?_; (with_reducible refine (label_Count.calls (⟨#[97, 195, 169]⟩ : ByteArray) t101 _ A1.out).mono ?_); rintro e w30 ⟨rfl, hb⟩; refine ⟨_, rfl, ?_⟩; have n0_ := Aside0.mk (below_step (by repeat (first | (with_reducible first | exact HB.out | apply below_alloc | apply pw_below_drewN | apply below_drew1) | exact HB.out)) hb); clear HB; have HB := n0_; clear n0_; (try clear hb); (try clear hb2); (try clear hk); (try clear hi)) | (go_at_call 16; (with_reducible refine (label_First.calls (⟨#[195, 169, 97]⟩ : ByteArray) 1 t102 _ A3.out).mono ?_); rintro e w31 ⟨rfl, hb⟩; have n0_ := Aside0.mk (below_step (by repeat (first | (with_reducible first | exact HB.out | apply below_alloc | apply pw_below_drewN | apply below_drew1) | exact HB.out)) hb); clear HB; have HB := n0_; clear n0_; (try clear hb); (try clear hb2); (try clear hk); (try clear hi)))
   go_ret
   exact ⟨by first | rfl | (simp [errW_none, errW_some] <;> rfl) | (simp [*, errW_none, errW_some] <;> rfl), by repeat (first | (with_reducible first | exact HB.out | apply below_alloc | apply pw_below_drewN | apply below_drew1) | exact HB.out)⟩
 ·rw [if_neg c2] at H
  have c2b0 : (t101 == 2) = false := beq_eq_false_iff_ne.mpr c2
  have c2b1 : (t101 != 2) = true := bne_iff_ne.mpr c2
  obtain rfl := Option.some.inj H
  go_enter Tryd.func11, Tryd.ntmps11
  go_wp2_with (first | ((with_reducible refine gate_callee (f := 14) rfl ?_); refine goesL_ (some 1) rfl rfl Tryd.func14 (by kernel_rfl) rfl #[.string (⟨#[97, 195, 169]⟩ : ByteArray)] rfl (by (try simp only [List.map_toArray, List.map_cons, List.map_nil]); first | done | rfl | (simp only [List.length_drop, List.length_take]; rfl) | (rw [wrap_sum2 (by assumption)]; rfl)) ?_; (with_reducible refine (label_Count.calls (⟨#[97, 195, 169]⟩ : ByteArray) t101 _ A1.out).mono ?_); rintro e w32 ⟨rfl, hb⟩; refine ⟨_, rfl, ?_⟩; have n0_ := Aside0.mk (below_step (by repeat (first | (with_reducible first | exact HB.out | apply below_alloc | apply pw_below_drewN | apply below_drew1) | exact HB.out)) hb); clear HB; have HB := n0_; clear n0_; (try clear hb); (try clear hb2); (try clear hk); (try clear hi)))
  go_ret
  exact ⟨by first | rfl | (simp [errW_none, errW_some] <;> rfl) | (simp [*, errW_none, errW_some] <;> rfl), by repeat (first | (with_reducible first | exact HB.out | apply below_alloc | apply pw_below_drewN | apply below_drew1) | exact HB.out)⟩


end Go.Proofs.YtapkghkcaflkmaaDoor.Fn
end
section
-- Written by printx.py, a program of this session over the kit's print: each Go function as a plain Lean function, and that the Go code computes it.


namespace Go.Proofs.YtapkghkcaflkmaaDoor.Fn
open Go.RowKit Go.Proofs.YtapkghkcaflkmaaDoorW.PrintWords Go.Proofs.YtapkghkcaflkmaaDoorW.PrintLast Go.Proofs.YtapkghkcaflkmaaDoorW.PrintMore Go.Proofs.YtapkghkcaflkmaaDoor.Lf
attribute [local go_sem] max2_int min2_int max_two min_two max_three min_three max_four min_four   -- for this text's walks alone
set_option linter.unusedVariables false
set_option linter.unusedSimpArgs false

/-! ### rootcellarref1_First: function 17 -/
def rootcellarref1_First.l0 : Nat → ByteArray → Int → ByteArray → Int → Option (ByteArray)
 | 0, _, _, _, _ => none
 | k + 1, x0, x1, x5, x6 => if x6 < x1 then (if x0.toList = ([] : List UInt8) then (some x5) else ((rootcellarref1_Rune.f k x0).bind fun bt117 => (if 0 ≤ bt117.2 then (if bt117.2 ≤ (x0.size : Int) then (if x5.size + (x0.extract 0 (bt117.2 : Int).toNat).size ≤ 9223372036854775807 then (rootcellarref1_First.l0 k (x0.extract (bt117.2 : Int).toNat x0.size) x1 (x5 ++ (x0.extract 0 (bt117.2 : Int).toNat)) (wrap64 (x6 + 1))) else (none)) else (none)) else (none)))) else (some x5)
def rootcellarref1_First.f (k : Nat) (a0 : ByteArray) (a1 : Int) : Option (ByteArray) := rootcellarref1_First.l0 k a0 a1 (⟨#[]⟩ : ByteArray) 0
theorem rootcellarref1_First.mono_l : ∀ k, (∀ y0 y1 y2 y3, LeO (rootcellarref1_First.l0 k y0 y1 y2 y3) (rootcellarref1_First.l0 (k + 1) y0 y1 y2 y3))
 | 0 => fun _ _ _ _ r h => by simp [rootcellarref1_First.l0] at h
 | k + 1 => by
  have ih0 := rootcellarref1_First.mono_l k
  ·intro y0 y1 y2 y3
   unfold rootcellarref1_First.l0
   repeat' first
   | (with_reducible exact ih0 _ _ _ _)
   | (with_reducible exact rootcellarref1_Rune.mono _ _)
   | (with_reducible exact LeO.refl _)
   | (with_reducible exact LeO.none _)
   | (with_reducible refine LeO.ite ?_ ?_)
   | (with_reducible refine LeO.bind ?_ (fun _ => ?_))
   | exact ih0 _ _ _ _
   | exact rootcellarref1_Rune.mono _ _
   | exact LeO.none _
   | refine LeO.ite ?_ ?_
   | refine LeO.bind ?_ (fun _ => ?_)
theorem rootcellarref1_First.mono : ∀ a0 a1 k, LeO (rootcellarref1_First.f k a0 a1) (rootcellarref1_First.f (k + 1) a0 a1) := by
 intro a0 a1 k
 have ih0 := rootcellarref1_First.mono_l k
 unfold rootcellarref1_First.f
 repeat' first
   | (with_reducible exact ih0 _ _ _ _)
   | (with_reducible exact rootcellarref1_Rune.mono _ _)
   | (with_reducible exact LeO.refl _)
   | (with_reducible exact LeO.none _)
   | (with_reducible refine LeO.ite ?_ ?_)
   | (with_reducible refine LeO.bind ?_ (fun _ => ?_))
   | exact ih0 _ _ _ _
   | exact rootcellarref1_Rune.mono _ _
   | exact LeO.none _
   | refine LeO.ite ?_ ?_
   | refine LeO.bind ?_ (fun _ => ?_)
set_option maxHeartbeats 8000000 in
set_option maxRecDepth 100000 in
theorem rootcellarref1_First.calls (k : Nat) (a0 : ByteArray) (a1 : Int) (r : ByteArray) (w : World) (h : rootcellarref1_First.f k a0 a1 = some r) :
  Calls Tryd.prog 17 #[.string a0, .int .i64 a1] w fun e w' => e = .returned (.string r) ∧ Drawn0 w w' := by
 have H : (rootcellarref1_First.l0 k a0 a1 (⟨#[]⟩ : ByteArray) 0) = some r := h
 clear h
 have H' := Aside0.mk H
 clear H
 go_enter Tryd.func17, Tryd.ntmps17
 go_wp2
 go_loopg [0, 5, 6] k (fun kq v0 v5 v6 w' => ∃ (x0_1 : ByteArray) (x5_1 : ByteArray) (x6_1 : Int), v0 = .string x0_1 ∧ v5 = .string x5_1 ∧ v6 = .int .i64 x6_1 ∧ Aside0 (rootcellarref1_First.l0 kq x0_1 a1 x5_1 x6_1 = some r) ∧ Aside0 (kq ≤ k) ∧ Drawn0 w w')
 case atStart => exact ⟨(a0), ((⟨#[]⟩ : ByteArray)), (0), (by first | rfl | (simp; done) | (simp [*]; done)), (by first | rfl | (simp; done) | (simp [*]; done)), (by first | rfl | (simp; done) | (simp [*]; done)), H', ⟨Nat.le_refl _⟩, by repeat (first | exact Drawn0.refl _ | apply Drawn0.step)⟩
 case round =>
  clear H'
  try clear c1
  try clear p2
  obtain ⟨x0_1, x5_1, x6_1, rfl, rfl, rfl, HA, HK1, ⟨m1, rfl⟩⟩ := hrel
  cases gk with
  | zero => exact absurd HA.out (by simp [rootcellarref1_First.l0])
  | succ k1 =>
   have H := HA.out
   clear HA
   simp only [rootcellarref1_First.l0] at H
   by_cases c3 : x6_1 < a1
   ·rw [if_pos c3] at H
    have c3b0 : decide (x6_1 < a1) = true := decide_eq_true c3
    clear c3
    by_cases c4 : x0_1.toList = ([] : List UInt8)
    ·rw [if_pos c4] at H
     have c4b0 : (x0_1.toList == ([] : List UInt8)) = true := beq_iff_eq.mpr c4
     have c4b1 : (x0_1.toList != ([] : List UInt8)) = false := bne_eq_false_iff_eq.mpr c4
     clear c4
     obtain rfl := Option.some.inj H
     go_wp2
     go_ret
     exact ⟨by first | rfl | (simp; done) | (simp [*]; done), by repeat (first | exact Drawn0.refl _ | apply Drawn0.step)⟩
    ·rw [if_neg c4] at H
     have c4b0 : (x0_1.toList == ([] : List UInt8)) = false := beq_eq_false_iff_ne.mpr c4
     have c4b1 : (x0_1.toList != ([] : List UInt8)) = true := bne_iff_ne.mpr c4
     replace H := Option.bind_eq_some_iff.mp H
     obtain ⟨⟨t117, t118⟩, A50, H⟩ := H
     replace H : (if 0 ≤ t118 then (if t118 ≤ (x0_1.size : Int) then (if x5_1.size + (x0_1.extract 0 (t118 : Int).toNat).size ≤ 9223372036854775807 then (rootcellarref1_First.l0 k1 (x0_1.extract (t118 : Int).toNat x0_1.size) a1 (x5_1 ++ (x0_1.extract 0 (t118 : Int).toNat)) (wrap64 (x6_1 + 1))) else (none)) else (none)) else (none)) = some r := H
     have A5 := Aside0.mk A50
     clear A50
     by_cases c6 : 0 ≤ t118
     ·rw [if_pos c6] at H
      have c6b0 := eq_true c6
      have c6b1 : decide (0 ≤ t118) = true := decide_eq_true c6
      clear c6
      by_cases c7 : t118 ≤ (x0_1.size : Int)
      ·rw [if_pos c7] at H
       have c7b0 := eq_true c7
       have c7b1 : decide (t118 ≤ (x0_1.size : Int)) = true := decide_eq_true c7
       clear c7
       by_cases c8 : x5_1.size + (x0_1.extract 0 (t118 : Int).toNat).size ≤ 9223372036854775807
       ·rw [if_pos c8] at H
        have c8b0 := eq_true c8
        have c8b1 : decide (x5_1.size + (x0_1.extract 0 (t118 : Int).toNat).size ≤ 9223372036854775807) = true := decide_eq_true c8
        try have c8b2 : (9223372036854775807 < x5_1.size + (x0_1.extract 0 (t118 : Int).toNat).size) = False := eq_false (Nat.not_lt.2 c8)
        have c9b0 := eq_true (of_decide_eq_true (by first | (with_reducible assumption) | assumption) : 0 ≤ t118)
        have c10b0 := eq_true (of_decide_eq_true (by first | (with_reducible assumption) | assumption) : t118 ≤ (x0_1.size : Int))
        have H' := Aside0.mk H
        clear H
        go_wp2_with (first | ((with_reducible refine gate_callee (f := 27) rfl ?_); refine goesL_ (some 20) rfl rfl Tryd.func27 (by kernel_rfl) rfl #[.string x0_1] rfl (by (try simp only [List.map_toArray, List.map_cons, List.map_nil]); first | done | rfl | (simp only [List.length_drop, List.length_take]; rfl) | (rw [wrap_sum2 (by assumption)]; rfl)) ?_; (with_reducible refine (rootcellarref1_Rune.calls k1 x0_1 t117 t118 _ A5.out).mono ?_); rintro e w' ⟨rfl, ⟨nd, rfl⟩⟩; refine ⟨_, rfl, ?_⟩))
        go_roundg k1
        case measure => have := HK1.out; omega
        case rel => exact ⟨(x0_1.extract (t118 : Int).toNat x0_1.size), (x5_1 ++ (x0_1.extract 0 (t118 : Int).toNat)), (wrap64 (x6_1 + 1)), (by first | rfl | (simp; done) | (simp [*]; done)), (by first | rfl | (simp; done) | (simp [*]; done)), (by first | rfl | (simp; done) | (simp [*]; done)), H', ⟨by have := HK1.out; omega⟩, by repeat (first | exact Drawn0.refl _ | apply Drawn0.step)⟩
       ·rw [if_neg c8] at H
        exact absurd H (by simp)
      ·rw [if_neg c7] at H
       exact absurd H (by simp)
     ·rw [if_neg c6] at H
      exact absurd H (by simp)
   ·rw [if_neg c3] at H
    have c3b0 : decide (x6_1 < a1) = false := decide_eq_false c3
    clear c3
    obtain rfl := Option.some.inj H
    go_wp2
    go_ret
    exact ⟨by first | rfl | (simp; done) | (simp [*]; done), by repeat (first | exact Drawn0.refl _ | apply Drawn0.step)⟩

end Go.Proofs.YtapkghkcaflkmaaDoor.Fn
end
section
-- Written by printx.py, a program of this session over the kit's print: each Go function as a plain Lean function, and that the Go code computes it.





namespace Go.Proofs.YtapkghkcaflkmaaDoor.Fn
open Go.RowKit Go.Proofs.YtapkghkcaflkmaaDoorW.PrintWords Go.Proofs.YtapkghkcaflkmaaDoorW.PrintLast Go.Proofs.YtapkghkcaflkmaaDoorW.PrintMore Go.Proofs.YtapkghkcaflkmaaDoor.Lf
attribute [local go_sem] max2_int min2_int max_two min_two max_three min_three max_four min_four   -- for this text's walks alone
set_option linter.unusedVariables false
set_option linter.unusedSimpArgs false

/-! ### rootcellarlaw1_LabelRunes: function 3 -/
def rootcellarlaw1_LabelRunes.j0 : Nat → ByteArray → Int → Bool → Bool → Option (Bool)
 | 0, _, _, _, _ => none
 | k + 1, x0, x1, x5, x13 => if x13 = true then (some x5) else ((label_Valid.f x0).bind fun t120 => ((rootcellarref1_Valid.f k x0).bind fun t121 => (if (t120 == t121) = true then ((label_Count.f x0).bind fun t122 => ((rootcellarref1_Count.f k x0).bind fun t123 => (if t122 = t123 then ((label_First.f x0 x1).bind fun t124 => ((rootcellarref1_First.f k x0 x1).bind fun t125 => (some (t124.toList == t125.toList)))) else (some false)))) else (some false))))
def rootcellarlaw1_LabelRunes.f (k : Nat) (a0 : ByteArray) (a1 : Int) : Option (Bool) := (rootcellarlaw1_shown.f).bind fun t119 => (if t119 = true then (rootcellarlaw1_LabelRunes.j0 k a0 a1 t119 (decide ((a0.size : Int) > 1000))) else (rootcellarlaw1_LabelRunes.j0 k a0 a1 t119 true))
theorem rootcellarlaw1_LabelRunes.mono_l : ∀ k, (∀ y0 y1 y2 y3, LeO (rootcellarlaw1_LabelRunes.j0 k y0 y1 y2 y3) (rootcellarlaw1_LabelRunes.j0 (k + 1) y0 y1 y2 y3))
 | 0 => fun _ _ _ _ r h => by simp [rootcellarlaw1_LabelRunes.j0] at h
 | k + 1 => by
  have ih0 := rootcellarlaw1_LabelRunes.mono_l k
  ·intro y0 y1 y2 y3
   unfold rootcellarlaw1_LabelRunes.j0
   repeat' first
   | (with_reducible exact ih0 _ _ _ _)
   | (with_reducible exact rootcellarref1_Count.mono _ _)
   | (with_reducible exact rootcellarref1_First.mono _ _ _)
   | (with_reducible exact rootcellarref1_Valid.mono _ _)
   | (with_reducible exact LeO.refl _)
   | (with_reducible exact LeO.none _)
   | (with_reducible refine LeO.ite ?_ ?_)
   | (with_reducible refine LeO.bind ?_ (fun _ => ?_))
   | exact ih0 _ _ _ _
   | exact rootcellarref1_Count.mono _ _
   | exact rootcellarref1_First.mono _ _ _
   | exact rootcellarref1_Valid.mono _ _
   | exact LeO.none _
   | refine LeO.ite ?_ ?_
   | refine LeO.bind ?_ (fun _ => ?_)
theorem rootcellarlaw1_LabelRunes.mono : ∀ a0 a1 k, LeO (rootcellarlaw1_LabelRunes.f k a0 a1) (rootcellarlaw1_LabelRunes.f (k + 1) a0 a1) := by
 intro a0 a1 k
 have ih0 := rootcellarlaw1_LabelRunes.mono_l k
 unfold rootcellarlaw1_LabelRunes.f
 repeat' first
   | (with_reducible exact ih0 _ _ _ _)
   | (with_reducible exact rootcellarref1_Count.mono _ _)
   | (with_reducible exact rootcellarref1_First.mono _ _ _)
   | (with_reducible exact rootcellarref1_Valid.mono _ _)
   | (with_reducible exact LeO.refl _)
   | (with_reducible exact LeO.none _)
   | (with_reducible refine LeO.ite ?_ ?_)
   | (with_reducible refine LeO.bind ?_ (fun _ => ?_))
   | exact ih0 _ _ _ _
   | exact rootcellarref1_Count.mono _ _
   | exact rootcellarref1_First.mono _ _ _
   | exact rootcellarref1_Valid.mono _ _
   | exact LeO.none _
   | refine LeO.ite ?_ ?_
   | refine LeO.bind ?_ (fun _ => ?_)
set_option maxHeartbeats 8000000 in
set_option maxRecDepth 100000 in
theorem rootcellarlaw1_LabelRunes.calls (k : Nat) (a0 : ByteArray) (a1 : Int) (r : Bool) (w : World) (h : rootcellarlaw1_LabelRunes.f k a0 a1 = some r) (HT : Tabs w) :
  Calls Tryd.prog 3 #[.string a0, .int .i64 a1] w fun e w' => e = .returned (.bool r) ∧ Below w.heap.size w w' := by
 have HB := Aside0.mk (Below.refl w.heap.size w)
 have H : ((rootcellarlaw1_shown.f).bind fun t119 => (if t119 = true then (rootcellarlaw1_LabelRunes.j0 k a0 a1 t119 (decide ((a0.size : Int) > 1000))) else (rootcellarlaw1_LabelRunes.j0 k a0 a1 t119 true))) = some r := h
 clear h
 replace H := Option.bind_eq_some_iff.mp H
 obtain ⟨t119, A30, H⟩ := H
 replace H : (if t119 = true then (rootcellarlaw1_LabelRunes.j0 k a0 a1 t119 (decide ((a0.size : Int) > 1000))) else (rootcellarlaw1_LabelRunes.j0 k a0 a1 t119 true)) = some r := H
 have A3 := Aside0.mk A30
 clear A30
 have HC4 := Aside0.mk H
 clear H
 go_enter Tryd.func3, Tryd.ntmps3
 go_upto_region 2 with (first | ((with_reducible refine gate_callee (f := 11) rfl ?_); refine goesL_ (some 6) rfl rfl Tryd.func11 (by kernel_rfl) rfl #[] rfl (by (try simp only [List.map_toArray, List.map_cons, List.map_nil]); first | done | rfl | (simp only [List.length_drop, List.length_take]; rfl) | (rw [wrap_sum2 (by assumption)]; rfl)) ?_; (with_reducible refine (rootcellarlaw1_shown.calls  t119 _ A3.out (HT.below (by repeat (first | (with_reducible first | exact HB.out | apply below_alloc | apply pw_below_drewN | apply below_drew1) | exact HB.out)))).mono ?_); rintro e w5 ⟨rfl, hb⟩; refine ⟨_, rfl, ?_⟩; have n0_ := Aside0.mk (below_step (by repeat (first | (with_reducible first | exact HB.out | apply below_alloc | apply pw_below_drewN | apply below_drew1) | exact HB.out)) hb); clear HB; have HB := n0_; clear n0_; (try clear hb); (try clear hb2); (try clear hk); (try clear hi)))
 (try simp only [Act.put, List.setIfInBounds_toArray, List.set_cons_zero, List.set_cons_succ])
 go_cut [13] (fun v13 wc => ∃ (kq : Nat) (x13_3 : Bool), v13 = .bool x13_3 ∧ Aside0 (rootcellarlaw1_LabelRunes.j0 kq a0 a1 t119 x13_3 = some r) ∧ Aside0 (kq ≤ k) ∧ Aside0 (Below w.heap.size w wc))
 case first =>
  have H := HC4.out
  clear HC4
  by_cases c6 : t119 = true
  ·subst c6
   have H1 : (rootcellarlaw1_LabelRunes.j0 k a0 a1 true (decide ((a0.size : Int) > 1000))) = some r := by rw [if_pos rfl] at H; exact H
   clear H
   have H := H1
   clear H1
   have H' := Aside0.mk H
   clear H
   go_wp2
   go_meet
   case rel => exact ⟨_, (decide ((a0.size : Int) > 1000)), (by first | rfl | (simp; done) | (simp [*]; done)), H', ⟨by first | omega | exact Nat.le_refl _⟩, ⟨by repeat (first | (with_reducible first | exact HB.out | apply below_alloc | apply pw_below_drewN | apply below_drew1) | exact HB.out)⟩⟩
  ·replace c6 := Bool.eq_false_iff.mpr c6
   subst c6
   have H1 : (rootcellarlaw1_LabelRunes.j0 k a0 a1 false true) = some r := by rw [if_neg (show ¬ (false = true) by decide)] at H; exact H
   clear H
   have H := H1
   clear H1
   have H' := Aside0.mk H
   clear H
   go_wp2
   go_meet
   case rel => exact ⟨_, (true), (by first | rfl | (simp; done) | (simp [*]; done)), H', ⟨by first | omega | exact Nat.le_refl _⟩, ⟨by repeat (first | (with_reducible first | exact HB.out | apply below_alloc | apply pw_below_drewN | apply below_drew1) | exact HB.out)⟩⟩
 case rest =>
  clear HC4
  try clear c1
  try clear p2
  try clear c3
  try clear c6
  obtain ⟨kq, x13_3, rfl, HA, HJ3, HB⟩ := hcut
  cases kq with
  | zero => exact absurd HA.out (by simp [rootcellarlaw1_LabelRunes.j0])
  | succ kj3 =>
   have H := HA.out
   clear HA
   simp only [rootcellarlaw1_LabelRunes.j0] at H
   by_cases c7 : x13_3 = true
   ·subst c7
    have H1 : (some t119) = some r := by rw [if_pos rfl] at H; exact H
    clear H
    have H := H1
    clear H1
    obtain rfl := Option.some.inj H
    go_wp2
    go_ret
    exact ⟨by first | rfl | (simp [errW_none, errW_some] <;> rfl) | (simp [*, errW_none, errW_some] <;> rfl), by repeat (first | (with_reducible first | exact HB.out | apply below_alloc | apply pw_below_drewN | apply below_drew1) | exact HB.out)⟩
   ·replace c7 := Bool.eq_false_iff.mpr c7
    subst c7
    have H1 : ((label_Valid.f a0).bind fun t120 => ((rootcellarref1_Valid.f kj3 a0).bind fun t121 => (if (t120 == t121) = true then ((label_Count.f a0).bind fun t122 => ((rootcellarref1_Count.f kj3 a0).bind fun t123 => (if t122 = t123 then ((label_First.f a0 a1).bind fun t124 => ((rootcellarref1_First.f kj3 a0 a1).bind fun t125 => (some (t124.toList == t125.toList)))) else (some false)))) else (some false)))) = some r := by rw [if_neg (show ¬ (false = true) by decide)] at H; exact H
    clear H
    have H := H1
    clear H1
    replace H := Option.bind_eq_some_iff.mp H
    obtain ⟨t120, A80, H⟩ := H
    replace H : ((rootcellarref1_Valid.f kj3 a0).bind fun t121 => (if (t120 == t121) = true then ((label_Count.f a0).bind fun t122 => ((rootcellarref1_Count.f kj3 a0).bind fun t123 => (if t122 = t123 then ((label_First.f a0 a1).bind fun t124 => ((rootcellarref1_First.f kj3 a0 a1).bind fun t125 => (some (t124.toList == t125.toList)))) else (some false)))) else (some false))) = some r := H
    have A8 := Aside0.mk A80
    clear A80
    replace H := Option.bind_eq_some_iff.mp H
    obtain ⟨t121, A90, H⟩ := H
    replace H : (if (t120 == t121) = true then ((label_Count.f a0).bind fun t122 => ((rootcellarref1_Count.f kj3 a0).bind fun t123 => (if t122 = t123 then ((label_First.f a0 a1).bind fun t124 => ((rootcellarref1_First.f kj3 a0 a1).bind fun t125 => (some (t124.toList == t125.toList)))) else (some false)))) else (some false)) = some r := H
    have A9 := Aside0.mk A90
    clear A90
    by_cases c10 : (t120 == t121) = true
    ·rw [if_pos c10] at H
     have c10b0 : (t120 == t121) = true := c10
     (try (have c10b1 : decide (t120 = t121) = true := by simpa using c10))
     (try (have c10b2 : (t120 == t121) = true := by simpa using c10))
     clear c10
     replace H := Option.bind_eq_some_iff.mp H
     obtain ⟨t122, A110, H⟩ := H
     replace H : ((rootcellarref1_Count.f kj3 a0).bind fun t123 => (if t122 = t123 then ((label_First.f a0 a1).bind fun t124 => ((rootcellarref1_First.f kj3 a0 a1).bind fun t125 => (some (t124.toList == t125.toList)))) else (some false))) = some r := H
     have A11 := Aside0.mk A110
     clear A110
     replace H := Option.bind_eq_some_iff.mp H
     obtain ⟨t123, A120, H⟩ := H
     replace H : (if t122 = t123 then ((label_First.f a0 a1).bind fun t124 => ((rootcellarref1_First.f kj3 a0 a1).bind fun t125 => (some (t124.toList == t125.toList)))) else (some false)) = some r := H
     have A12 := Aside0.mk A120
     clear A120
     by_cases c13 : t122 = t123
     ·rw [if_pos c13] at H
      have c13b0 : (t122 == t123) = true := beq_iff_eq.mpr c13
      have c13b1 : (t122 != t123) = false := bne_eq_false_iff_eq.mpr c13
      clear c13
      replace H := Option.bind_eq_some_iff.mp H
      obtain ⟨t124, A140, H⟩ := H
      replace H : ((rootcellarref1_First.f kj3 a0 a1).bind fun t125 => (some (t124.toList == t125.toList))) = some r := H
      have A14 := Aside0.mk A140
      clear A140
      replace H := Option.bind_eq_some_iff.mp H
      obtain ⟨t125, A150, H⟩ := H
      replace H : (some (t124.toList == t125.toList)) = some r := H
      have A15 := Aside0.mk A150
      clear A150
      obtain rfl := Option.some.inj H
      go_wp2_with (first | ((with_reducible refine gate_callee (f := 12) rfl ?_); refine goesL_ (some 16) rfl rfl Tryd.func12 (by kernel_rfl) rfl #[.string a0] rfl (by (try simp only [List.map_toArray, List.map_cons, List.map_nil]); first | done | rfl | (simp only [List.length_drop, List.length_take]; rfl) | (rw [wrap_sum2 (by assumption)]; rfl)) ?_; (with_reducible refine (label_Valid.calls a0 t120 _ A8.out (HT.below (by repeat (first | (with_reducible first | exact HB.out | apply below_alloc | apply pw_below_drewN | apply below_drew1) | exact HB.out)))).mono ?_); rintro e w16 ⟨rfl, hb⟩; refine ⟨_, rfl, ?_⟩; have n0_ := Aside0.mk (below_step (by repeat (first | (with_reducible first | exact HB.out | apply below_alloc | apply pw_below_drewN | apply below_drew1) | exact HB.out)) hb); clear HB; have HB := n0_; clear n0_; (try clear hb); (try clear hb2); (try clear hk); (try clear hi)) | ((with_reducible refine gate_callee (f := 13) rfl ?_); refine goesL_ (some 18) rfl rfl Tryd.func13 (by kernel_rfl) rfl #[.string a0] rfl (by (try simp only [List.map_toArray, List.map_cons, List.map_nil]); first | done | rfl | (simp only [List.length_drop, List.length_take]; rfl) | (rw [wrap_sum2 (by assumption)]; rfl)) ?_; (with_reducible refine (rootcellarref1_Valid.calls kj3 a0 t121 _ A9.out).mono ?_); rintro e w' ⟨rfl, ⟨nd, rfl⟩⟩; refine ⟨_, rfl, ?_⟩) | (go_at_call 14; (with_reducible refine (label_Count.calls a0 t122 _ A11.out).mono ?_); rintro e w17 ⟨rfl, hb⟩; have n0_ := Aside0.mk (below_step (by repeat (first | (with_reducible first | exact HB.out | apply below_alloc | apply pw_below_drewN | apply below_drew1) | exact HB.out)) hb); clear HB; have HB := n0_; clear n0_; (try clear hb); (try clear hb2); (try clear hk); (try clear hi)) | (go_at_call 15; (with_reducible refine (rootcellarref1_Count.calls kj3 a0 t123 _ A12.out).mono ?_); rintro e w' ⟨rfl, ⟨nd, rfl⟩⟩) | (go_at_call 16; (with_reducible refine (label_First.calls a0 a1 t124 _ A14.out).mono ?_); rintro e w18 ⟨rfl, hb⟩; have n0_ := Aside0.mk (below_step (by repeat (first | (with_reducible first | exact HB.out | apply below_alloc | apply pw_below_drewN | apply below_drew1) | exact HB.out)) hb); clear HB; have HB := n0_; clear n0_; (try clear hb); (try clear hb2); (try clear hk); (try clear hi)) | (go_at_call 17; (with_reducible refine (rootcellarref1_First.calls kj3 a0 a1 t125 _ A15.out).mono ?_); rintro e w' ⟨rfl, ⟨nd, rfl⟩⟩))
      go_ret
      exact ⟨by first | rfl | (simp [errW_none, errW_some] <;> rfl) | (simp [*, errW_none, errW_some] <;> rfl), by repeat (first | (with_reducible first | exact HB.out | apply below_alloc | apply pw_below_drewN | apply below_drew1) | exact HB.out)⟩
     ·rw [if_neg c13] at H
      have c13b0 : (t122 == t123) = false := beq_eq_false_iff_ne.mpr c13
      have c13b1 : (t122 != t123) = true := bne_iff_ne.mpr c13
      obtain rfl := Option.some.inj H
      go_wp2_with (first | ((with_reducible refine gate_callee (f := 12) rfl ?_); refine goesL_ (some 16) rfl rfl Tryd.func12 (by kernel_rfl) rfl #[.string a0] rfl (by (try simp only [List.map_toArray, List.map_cons, List.map_nil]); first | done | rfl | (simp only [List.length_drop, List.length_take]; rfl) | (rw [wrap_sum2 (by assumption)]; rfl)) ?_; (with_reducible refine (label_Valid.calls a0 t120 _ A8.out (HT.below (by repeat (first | (with_reducible first | exact HB.out | apply below_alloc | apply pw_below_drewN | apply below_drew1) | exact HB.out)))).mono ?_); rintro e w19 ⟨rfl, hb⟩; refine ⟨_, rfl, ?_⟩; have n0_ := Aside0.mk (below_step (by repeat (first | (with_reducible first | exact HB.out | apply below_alloc | apply pw_below_drewN | apply below_drew1) | exact HB.out)) hb); clear HB; have HB := n0_; clear n0_; (try clear hb); (try clear hb2); (try clear hk); (try clear hi)) | ((with_reducible refine gate_callee (f := 13) rfl ?_); refine goesL_ (some 18) rfl rfl Tryd.func13 (by kernel_rfl) rfl #[.string a0] rfl (by (try simp only [List.map_toArray, List.map_cons, List.map_nil]); first | done | rfl | (simp only [List.length_drop, List.length_take]; rfl) | (rw [wrap_sum2 (by assumption)]; rfl)) ?_; (with_reducible refine (rootcellarref1_Valid.calls kj3 a0 t121 _ A9.out).mono ?_); rintro e w' ⟨rfl, ⟨nd, rfl⟩⟩; refine ⟨_, rfl, ?_⟩) | (go_at_call 14; (with_reducible refine (label_Count.calls a0 t122 _ A11.out).mono ?_); rintro e w20 ⟨rfl, hb⟩; have n0_ := Aside0.mk (below_step (by repeat (first | (with_reducible first | exact HB.out | apply below_alloc | apply pw_below_drewN | apply below_drew1) | exact HB.out)) hb); clear HB; have HB := n0_; clear n0_; (try clear hb); (try clear hb2); (try clear hk); (try clear hi)) | (go_at_call 15; (with_reducible refine (rootcellarref1_Count.calls kj3 a0 t123 _ A12.out).mono ?_); rintro e w' ⟨rfl, ⟨nd, rfl⟩⟩))
      go_ret
      exact ⟨by first | rfl | (simp [errW_none, errW_some] <;> rfl) | (simp [*, errW_none, errW_some] <;> rfl), by repeat (first | (with_reducible first | exact HB.out | apply below_alloc | apply pw_below_drewN | apply below_drew1) | exact HB.out)⟩
    ·rw [if_neg c10] at H
     have c10b0 : (t120 == t121) = false := by simpa using c10
     (try (have c10b1 : decide (t120 = t121) = false := by simpa using c10))
     (try (have c10b2 : (t120 == t121) = false := by simpa using c10))
     (try (have c10b3 : ¬ (t120 = t121) := by simpa using c10))
     clear c10
     obtain rfl := Option.some.inj H
     go_wp2_with (first | ((with_reducible refine gate_callee (f := 12) rfl ?_); refine goesL_ (some 16) rfl rfl Tryd.func12 (by kernel_rfl) rfl #[.string a0] rfl (by (try simp only [List.map_toArray, List.map_cons, List.map_nil]); first | done | rfl | (simp only [List.length_drop, List.length_take]; rfl) | (rw [wrap_sum2 (by assumption)]; rfl)) ?_; (with_reducible refine (label_Valid.calls a0 t120 _ A8.out (HT.below (by repeat (first | (with_reducible first | exact HB.out | apply below_alloc | apply pw_below_drewN | apply below_drew1) | exact HB.out)))).mono ?_); rintro e w21 ⟨rfl, hb⟩; refine ⟨_, rfl, ?_⟩; have n0_ := Aside0.mk (below_step (by repeat (first | (with_reducible first | exact HB.out | apply below_alloc | apply pw_below_drewN | apply below_drew1) | exact HB.out)) hb); clear HB; have HB := n0_; clear n0_; (try clear hb); (try clear hb2); (try clear hk); (try clear hi)) | ((with_reducible refine gate_callee (f := 13) rfl ?_); refine goesL_ (some 18) rfl rfl Tryd.func13 (by kernel_rfl) rfl #[.string a0] rfl (by (try simp only [List.map_toArray, List.map_cons, List.map_nil]); first | done | rfl | (simp only [List.length_drop, List.length_take]; rfl) | (rw [wrap_sum2 (by assumption)]; rfl)) ?_; (with_reducible refine (rootcellarref1_Valid.calls kj3 a0 t121 _ A9.out).mono ?_); rintro e w' ⟨rfl, ⟨nd, rfl⟩⟩; refine ⟨_, rfl, ?_⟩))
     go_ret
     exact ⟨by first | rfl | (simp [errW_none, errW_some] <;> rfl) | (simp [*, errW_none, errW_some] <;> rfl), by repeat (first | (with_reducible first | exact HB.out | apply below_alloc | apply pw_below_drewN | apply below_drew1) | exact HB.out)⟩


end Go.Proofs.YtapkghkcaflkmaaDoor.Fn
end
section
-- Written by printx.py, a program of this session over the kit's print: each Go function as a plain Lean function, and that the Go code computes it.


namespace Go.Proofs.YtapkghkcaflkmaaDoor.Fn
open Go.RowKit Go.Proofs.YtapkghkcaflkmaaDoorW.PrintWords Go.Proofs.YtapkghkcaflkmaaDoorW.PrintLast Go.Proofs.YtapkghkcaflkmaaDoorW.PrintMore Go.Proofs.YtapkghkcaflkmaaDoor.Lf
attribute [local go_sem] max2_int min2_int max_two min_two max_three min_three max_four min_four   -- for this text's walks alone
set_option linter.unusedVariables false
set_option linter.unusedSimpArgs false

/-! ### rootcellarlaw1_LabelCuts: function 4 -/
mutual
def rootcellarlaw1_LabelCuts.j0 : Nat → ByteArray → Int → Bool → Bool → Option (Bool)
 | 0, _, _, _, _ => none
 | k + 1, x0, x1, x5, x15 => if x15 = true then (some x5) else ((label_First.f x0 x1).bind fun t127 => (if (t127.size : Int) > (x0.size : Int) then (rootcellarlaw1_LabelCuts.j1 k x0 x1 t127 true) else (if 0 ≤ (t127.size : Int) then (if (t127.size : Int) ≤ (x0.size : Int) then (rootcellarlaw1_LabelCuts.j1 k x0 x1 t127 ((x0.extract 0 ((t127.size : Int) : Int).toNat).toList != t127.toList)) else (none)) else (none))))
def rootcellarlaw1_LabelCuts.j1 : Nat → ByteArray → Int → ByteArray → Bool → Option (Bool)
 | 0, _, _, _, _ => none
 | k + 1, x0, x1, x6, x32 => if x32 = true then (some false) else (if 0 ≤ (x6.size : Int) then (if (x6.size : Int) ≤ (x0.size : Int) then ((label_Count.f x6).bind fun t128 => ((label_Count.f x0).bind fun t129 => (if t128 = (mx 0 (mn x1 t129)) then ((label_Count.f x6).bind fun t130 => ((label_Count.f (x0.extract ((x6.size : Int) : Int).toNat x0.size)).bind fun t131 => ((label_Count.f x0).bind fun t132 => (if (wrap64 (t130 + t131)) = t132 then ((label_Valid.f x0).bind fun t133 => (if t133 = true then ((label_Valid.f x6).bind fun t134 => (if t134 = true then ((label_Valid.f (x0.extract ((x6.size : Int) : Int).toNat x0.size)).bind fun t135 => (some t135)) else (some false))) else (some true))) else (some false))))) else (some false)))) else (none)) else (none))
end
def rootcellarlaw1_LabelCuts.f (k : Nat) (a0 : ByteArray) (a1 : Int) : Option (Bool) := (rootcellarlaw1_shown.f).bind fun t126 => (if t126 = true then (rootcellarlaw1_LabelCuts.j0 k a0 a1 t126 (decide ((a0.size : Int) > 800))) else (rootcellarlaw1_LabelCuts.j0 k a0 a1 t126 true))
theorem rootcellarlaw1_LabelCuts.mono_l : ∀ k, (∀ y0 y1 y2 y3, LeO (rootcellarlaw1_LabelCuts.j0 k y0 y1 y2 y3) (rootcellarlaw1_LabelCuts.j0 (k + 1) y0 y1 y2 y3)) ∧ (∀ y0 y1 y2 y3, LeO (rootcellarlaw1_LabelCuts.j1 k y0 y1 y2 y3) (rootcellarlaw1_LabelCuts.j1 (k + 1) y0 y1 y2 y3))
 | 0 => ⟨fun _ _ _ _ r h => by simp [rootcellarlaw1_LabelCuts.j0] at h, fun _ _ _ _ r h => by simp [rootcellarlaw1_LabelCuts.j1] at h⟩
 | k + 1 => by
  obtain ⟨ih0, ih1⟩ := rootcellarlaw1_LabelCuts.mono_l k
  refine ⟨?_, ?_⟩
  ·intro y0 y1 y2 y3
   unfold rootcellarlaw1_LabelCuts.j0
   repeat' first
   | (with_reducible exact ih0 _ _ _ _)
   | (with_reducible exact ih1 _ _ _ _)
   | (with_reducible exact LeO.refl _)
   | (with_reducible exact LeO.none _)
   | (with_reducible refine LeO.ite ?_ ?_)
   | (with_reducible refine LeO.bind ?_ (fun _ => ?_))
   | exact ih0 _ _ _ _
   | exact ih1 _ _ _ _
   | exact LeO.none _
   | refine LeO.ite ?_ ?_
   | refine LeO.bind ?_ (fun _ => ?_)
  ·intro y0 y1 y2 y3
   unfold rootcellarlaw1_LabelCuts.j1
   repeat' first
   | (with_reducible exact ih0 _ _ _ _)
   | (with_reducible exact ih1 _ _ _ _)
   | (with_reducible exact LeO.refl _)
   | (with_reducible exact LeO.none _)
   | (with_reducible refine LeO.ite ?_ ?_)
   | (with_reducible refine LeO.bind ?_ (fun _ => ?_))
   | exact ih0 _ _ _ _
   | exact ih1 _ _ _ _
   | exact LeO.none _
   | refine LeO.ite ?_ ?_
   | refine LeO.bind ?_ (fun _ => ?_)
theorem rootcellarlaw1_LabelCuts.mono : ∀ a0 a1 k, LeO (rootcellarlaw1_LabelCuts.f k a0 a1) (rootcellarlaw1_LabelCuts.f (k + 1) a0 a1) := by
 intro a0 a1 k
 obtain ⟨ih0, ih1⟩ := rootcellarlaw1_LabelCuts.mono_l k
 unfold rootcellarlaw1_LabelCuts.f
 repeat' first
   | (with_reducible exact ih0 _ _ _ _)
   | (with_reducible exact ih1 _ _ _ _)
   | (with_reducible exact LeO.refl _)
   | (with_reducible exact LeO.none _)
   | (with_reducible refine LeO.ite ?_ ?_)
   | (with_reducible refine LeO.bind ?_ (fun _ => ?_))
   | exact ih0 _ _ _ _
   | exact ih1 _ _ _ _
   | exact LeO.none _
   | refine LeO.ite ?_ ?_
   | refine LeO.bind ?_ (fun _ => ?_)
set_option maxHeartbeats 8000000 in
set_option maxRecDepth 100000 in
theorem rootcellarlaw1_LabelCuts.calls (k : Nat) (a0 : ByteArray) (a1 : Int) (r : Bool) (w : World) (h : rootcellarlaw1_LabelCuts.f k a0 a1 = some r) (HT : Tabs w) :
  Calls Tryd.prog 4 #[.string a0, .int .i64 a1] w fun e w' => e = .returned (.bool r) ∧ Below w.heap.size w w' := by
 have HB := Aside0.mk (Below.refl w.heap.size w)
 have H : ((rootcellarlaw1_shown.f).bind fun t126 => (if t126 = true then (rootcellarlaw1_LabelCuts.j0 k a0 a1 t126 (decide ((a0.size : Int) > 800))) else (rootcellarlaw1_LabelCuts.j0 k a0 a1 t126 true))) = some r := h
 clear h
 replace H := Option.bind_eq_some_iff.mp H
 obtain ⟨t126, A30, H⟩ := H
 replace H : (if t126 = true then (rootcellarlaw1_LabelCuts.j0 k a0 a1 t126 (decide ((a0.size : Int) > 800))) else (rootcellarlaw1_LabelCuts.j0 k a0 a1 t126 true)) = some r := H
 have A3 := Aside0.mk A30
 clear A30
 have HC4 := Aside0.mk H
 clear H
 go_enter Tryd.func4, Tryd.ntmps4
 go_upto_region 2 with (first | ((with_reducible refine gate_callee (f := 11) rfl ?_); refine goesL_ (some 8) rfl rfl Tryd.func11 (by kernel_rfl) rfl #[] rfl (by (try simp only [List.map_toArray, List.map_cons, List.map_nil]); first | done | rfl | (simp only [List.length_drop, List.length_take]; rfl) | (rw [wrap_sum2 (by assumption)]; rfl)) ?_; (with_reducible refine (rootcellarlaw1_shown.calls  t126 _ A3.out (HT.below (by repeat (first | (with_reducible first | exact HB.out | apply below_alloc | apply pw_below_drewN | apply below_drew1) | exact HB.out)))).mono ?_); rintro e w5 ⟨rfl, hb⟩; refine ⟨_, rfl, ?_⟩; have n0_ := Aside0.mk (below_step (by repeat (first | (with_reducible first | exact HB.out | apply below_alloc | apply pw_below_drewN | apply below_drew1) | exact HB.out)) hb); clear HB; have HB := n0_; clear n0_; (try clear hb); (try clear hb2); (try clear hk); (try clear hi)))
 (try simp only [Act.put, List.setIfInBounds_toArray, List.set_cons_zero, List.set_cons_succ])
 go_cut [15] (fun v15 wc => ∃ (kq : Nat) (x15_3 : Bool), v15 = .bool x15_3 ∧ Aside0 (rootcellarlaw1_LabelCuts.j0 kq a0 a1 t126 x15_3 = some r) ∧ Aside0 (kq ≤ k) ∧ Aside0 (Below w.heap.size w wc))
 case first =>
  have H := HC4.out
  clear HC4
  by_cases c6 : t126 = true
  ·subst c6
   have H1 : (rootcellarlaw1_LabelCuts.j0 k a0 a1 true (decide ((a0.size : Int) > 800))) = some r := by rw [if_pos rfl] at H; exact H
   clear H
   have H := H1
   clear H1
   have H' := Aside0.mk H
   clear H
   go_wp2
   go_meet
   case rel => exact ⟨_, (decide ((a0.size : Int) > 800)), (by first | rfl | (simp; done) | (simp [*]; done)), H', ⟨by first | omega | exact Nat.le_refl _⟩, ⟨by repeat (first | (with_reducible first | exact HB.out | apply below_alloc | apply pw_below_drewN | apply below_drew1) | exact HB.out)⟩⟩
  ·replace c6 := Bool.eq_false_iff.mpr c6
   subst c6
   have H1 : (rootcellarlaw1_LabelCuts.j0 k a0 a1 false true) = some r := by rw [if_neg (show ¬ (false = true) by decide)] at H; exact H
   clear H
   have H := H1
   clear H1
   have H' := Aside0.mk H
   clear H
   go_wp2
   go_meet
   case rel => exact ⟨_, (true), (by first | rfl | (simp; done) | (simp [*]; done)), H', ⟨by first | omega | exact Nat.le_refl _⟩, ⟨by repeat (first | (with_reducible first | exact HB.out | apply below_alloc | apply pw_below_drewN | apply below_drew1) | exact HB.out)⟩⟩
 case rest =>
  clear HC4
  try clear c1
  try clear p2
  try clear c4
  try clear c6
  obtain ⟨kq, x15_3, rfl, HA, HJ3, HB⟩ := hcut
  cases kq with
  | zero => exact absurd HA.out (by simp [rootcellarlaw1_LabelCuts.j0])
  | succ kj3 =>
   have H := HA.out
   clear HA
   simp only [rootcellarlaw1_LabelCuts.j0] at H
   by_cases c7 : x15_3 = true
   ·subst c7
    have H1 : (some t126) = some r := by rw [if_pos rfl] at H; exact H
    clear H
    have H := H1
    clear H1
    obtain rfl := Option.some.inj H
    go_wp2
    go_ret
    exact ⟨by first | rfl | (simp [errW_none, errW_some] <;> rfl) | (simp [*, errW_none, errW_some] <;> rfl), by repeat (first | (with_reducible first | exact HB.out | apply below_alloc | apply pw_below_drewN | apply below_drew1) | exact HB.out)⟩
   ·replace c7 := Bool.eq_false_iff.mpr c7
    subst c7
    have H1 : ((label_First.f a0 a1).bind fun t127 => (if (t127.size : Int) > (a0.size : Int) then (rootcellarlaw1_LabelCuts.j1 kj3 a0 a1 t127 true) else (if 0 ≤ (t127.size : Int) then (if (t127.size : Int) ≤ (a0.size : Int) then (rootcellarlaw1_LabelCuts.j1 kj3 a0 a1 t127 ((a0.extract 0 t127.size).toList != t127.toList)) else (none)) else (none)))) = some r := by rw [if_neg (show ¬ (false = true) by decide)] at H; exact H
    clear H
    have H := H1
    clear H1
    replace H := Option.bind_eq_some_iff.mp H
    obtain ⟨t127, A80, H⟩ := H
    replace H : (if (t127.size : Int) > (a0.size : Int) then (rootcellarlaw1_LabelCuts.j1 kj3 a0 a1 t127 true) else (if 0 ≤ (t127.size : Int) then (if (t127.size : Int) ≤ (a0.size : Int) then (rootcellarlaw1_LabelCuts.j1 kj3 a0 a1 t127 ((a0.extract 0 t127.size).toList != t127.toList)) else (none)) else (none))) = some r := H
    have A8 := Aside0.mk A80
    clear A80
    have HC9 := Aside0.mk H
    clear H
    go_upto_region 5 with (first | ((with_reducible refine gate_callee (f := 16) rfl ?_); refine goesL_ (some 19) rfl rfl Tryd.func16 (by kernel_rfl) rfl #[.string a0, .int .i64 a1] rfl (by (try simp only [List.map_toArray, List.map_cons, List.map_nil]); first | done | rfl | (simp only [List.length_drop, List.length_take]; rfl) | (rw [wrap_sum2 (by assumption)]; rfl)) ?_; (with_reducible refine (label_First.calls a0 a1 t127 _ A8.out).mono ?_); rintro e w10 ⟨rfl, hb⟩; refine ⟨_, rfl, ?_⟩; have n0_ := Aside0.mk (below_step (by repeat (first | (with_reducible first | exact HB.out | apply below_alloc | apply pw_below_drewN | apply below_drew1) | exact HB.out)) hb); clear HB; have HB := n0_; clear n0_; (try clear hb); (try clear hb2); (try clear hk); (try clear hi)))
    (try simp only [Act.put, List.setIfInBounds_toArray, List.set_cons_zero, List.set_cons_succ])
    go_cut [32] (fun v32 wc => ∃ (kq : Nat) (x32_8 : Bool), v32 = .bool x32_8 ∧ Aside0 (rootcellarlaw1_LabelCuts.j1 kq a0 a1 t127 x32_8 = some r) ∧ Aside0 (kq ≤ kj3) ∧ Aside0 (Below w.heap.size w wc))
    case first =>
     have H := HC9.out
     clear HC9
     by_cases c11 : (t127.size : Int) > (a0.size : Int)
     ·rw [if_pos c11] at H
      have c11b0 : decide ((a0.size : Int) < (t127.size : Int)) = true := decide_eq_true c11
      have c11b1 : decide (a0.size < t127.size) = true := decide_eq_true (Int.ofNat_lt.mp c11)
      clear c11
      (first | rw [c11b0] | (simp only [i64_w, i32_w]; rw [c11b0]) | skip)
      have H' := Aside0.mk H
      clear H
      go_wp2
      go_meet
      case rel => exact ⟨_, (true), (by first | rfl | (simp; done) | (simp [*]; done)), H', ⟨by have := HJ3.out; first | omega | exact Nat.le_refl _⟩, ⟨by repeat (first | (with_reducible first | exact HB.out | apply below_alloc | apply pw_below_drewN | apply below_drew1) | exact HB.out)⟩⟩
     ·rw [if_neg c11] at H
      have c11b0 : decide ((a0.size : Int) < (t127.size : Int)) = false := decide_eq_false c11
      have c11b1 : decide (a0.size < t127.size) = false := decide_eq_false (fun h => c11 (Int.ofNat_lt.mpr h))
      clear c11
      (first | rw [c11b0] | (simp only [i64_w, i32_w]; rw [c11b0]) | skip)
      by_cases c12 : 0 ≤ (t127.size : Int)
      ·rw [if_pos c12] at H
       have c12b0 := eq_true c12
       have c12b1 : decide (0 ≤ (t127.size : Int)) = true := decide_eq_true c12
       clear c12
       by_cases c13 : (t127.size : Int) ≤ (a0.size : Int)
       ·rw [if_pos c13] at H
        have c13b0 := eq_true c13
        have c13b1 : decide ((t127.size : Int) ≤ (a0.size : Int)) = true := decide_eq_true c13
        clear c13
        have H' := Aside0.mk H
        clear H
        go_wp2
        go_meet
        case rel => exact ⟨_, (((a0.extract 0 t127.size).toList != t127.toList)), (by first | rfl | (simp; done) | (simp [*]; done)), H', ⟨by have := HJ3.out; first | omega | exact Nat.le_refl _⟩, ⟨by repeat (first | (with_reducible first | exact HB.out | apply below_alloc | apply pw_below_drewN | apply below_drew1) | exact HB.out)⟩⟩
       ·rw [if_neg c13] at H
        exact absurd H (by simp)
      ·rw [if_neg c12] at H
       exact absurd H (by simp)
    case rest =>
     clear HC9
     try clear c1
     try clear p2
     try clear c4
     try clear c6
     try clear c7
     try clear c11
     try clear c11b0
     try clear c11b1
     try clear c12
     try clear c12b0
     try clear c12b1
     try clear c13
     try clear c13b0
     try clear c13b1
     try clear p2
     obtain ⟨kq, x32_8, rfl, HA, HJ8, HB⟩ := hcut
     cases kq with
     | zero => exact absurd HA.out (by simp [rootcellarlaw1_LabelCuts.j1])
     | succ kj8 =>
      have H := HA.out
      clear HA
      simp only [rootcellarlaw1_LabelCuts.j1] at H
      by_cases c14 : x32_8 = true
      ·subst c14
       have H1 : (some false) = some r := by rw [if_pos rfl] at H; exact H
       clear H
       have H := H1
       clear H1
       obtain rfl := Option.some.inj H
       go_wp2
       go_ret
       exact ⟨by first | rfl | (simp [errW_none, errW_some] <;> rfl) | (simp [*, errW_none, errW_some] <;> rfl), by repeat (first | (with_reducible first | exact HB.out | apply below_alloc | apply pw_below_drewN | apply below_drew1) | exact HB.out)⟩
      ·replace c14 := Bool.eq_false_iff.mpr c14
       subst c14
       have H1 : (if 0 ≤ (t127.size : Int) then (if (t127.size : Int) ≤ (a0.size : Int) then ((label_Count.f t127).bind fun t128 => ((label_Count.f a0).bind fun t129 => (if t128 = (mx 0 (mn a1 t129)) then ((label_Count.f t127).bind fun t130 => ((label_Count.f (a0.extract t127.size a0.size)).bind fun t131 => ((label_Count.f a0).bind fun t132 => (if (wrap64 (t130 + t131)) = t132 then ((label_Valid.f a0).bind fun t133 => (if t133 = true then ((label_Valid.f t127).bind fun t134 => (if t134 = true then ((label_Valid.f (a0.extract t127.size a0.size)).bind fun t135 => (some t135)) else (some false))) else (some true))) else (some false))))) else (some false)))) else (none)) else (none)) = some r := by rw [if_neg (show ¬ (false = true) by decide)] at H; exact H
       clear H
       have H := H1
       clear H1
       by_cases c15 : 0 ≤ (t127.size : Int)
       ·rw [if_pos c15] at H
        have c15b0 := eq_true c15
        have c15b1 : decide (0 ≤ (t127.size : Int)) = true := decide_eq_true c15
        clear c15
        by_cases c16 : (t127.size : Int) ≤ (a0.size : Int)
        ·rw [if_pos c16] at H
         have c16b0 := eq_true c16
         have c16b1 : decide ((t127.size : Int) ≤ (a0.size : Int)) = true := decide_eq_true c16
         clear c16
         replace H := Option.bind_eq_some_iff.mp H
         obtain ⟨t128, A170, H⟩ := H
         replace H : ((label_Count.f a0).bind fun t129 => (if t128 = (mx 0 (mn a1 t129)) then ((label_Count.f t127).bind fun t130 => ((label_Count.f (a0.extract t127.size a0.size)).bind fun t131 => ((label_Count.f a0).bind fun t132 => (if (wrap64 (t130 + t131)) = t132 then ((label_Valid.f a0).bind fun t133 => (if t133 = true then ((label_Valid.f t127).bind fun t134 => (if t134 = true then ((label_Valid.f (a0.extract t127.size a0.size)).bind fun t135 => (some t135)) else (some false))) else (some true))) else (some false))))) else (some false))) = some r := H
         have A17 := Aside0.mk A170
         clear A170
         replace H := Option.bind_eq_some_iff.mp H
         obtain ⟨t129, A180, H⟩ := H
         replace H : (if t128 = (mx 0 (mn a1 t129)) then ((label_Count.f t127).bind fun t130 => ((label_Count.f (a0.extract t127.size a0.size)).bind fun t131 => ((label_Count.f a0).bind fun t132 => (if (wrap64 (t130 + t131)) = t132 then ((label_Valid.f a0).bind fun t133 => (if t133 = true then ((label_Valid.f t127).bind fun t134 => (if t134 = true then ((label_Valid.f (a0.extract t127.size a0.size)).bind fun t135 => (some t135)) else (some false))) else (some true))) else (some false))))) else (some false)) = some r := H
         have A18 := Aside0.mk A180
         clear A180
         obtain ⟨ji19, hji19⟩ : ∃ j_ : Int, (mn a1 t129) = j_ := ⟨_, rfl⟩
         replace H : (if t128 = (mx 0 (ji19)) then ((label_Count.f t127).bind fun t130 => ((label_Count.f (a0.extract t127.size a0.size)).bind fun t131 => ((label_Count.f a0).bind fun t132 => (if (wrap64 (t130 + t131)) = t132 then ((label_Valid.f a0).bind fun t133 => (if t133 = true then ((label_Valid.f t127).bind fun t134 => (if t134 = true then ((label_Valid.f (a0.extract t127.size a0.size)).bind fun t135 => (some t135)) else (some false))) else (some true))) else (some false))))) else (some false)) = some r := by first | (rw [hji19] at H; exact H) | (simp only [hji19] at H ⊢; exact H)
         (try rw [hji19] at A17)
         (try rw [hji19] at A18)
         have hji19_ : (if t129 < a1 then t129 else a1) = ji19 := hji19
         obtain ⟨ji20, hji20⟩ : ∃ j_ : Int, (mx 0 (ji19)) = j_ := ⟨_, rfl⟩
         replace H : (if t128 = (ji20) then ((label_Count.f t127).bind fun t130 => ((label_Count.f (a0.extract t127.size a0.size)).bind fun t131 => ((label_Count.f a0).bind fun t132 => (if (wrap64 (t130 + t131)) = t132 then ((label_Valid.f a0).bind fun t133 => (if t133 = true then ((label_Valid.f t127).bind fun t134 => (if t134 = true then ((label_Valid.f (a0.extract t127.size a0.size)).bind fun t135 => (some t135)) else (some false))) else (some true))) else (some false))))) else (some false)) = some r := by first | (rw [hji20] at H; exact H) | (simp only [hji20] at H ⊢; exact H)
         (try rw [hji20] at A17)
         (try rw [hji20] at A18)
         have hji20_ : (if 0 < (ji19) then (ji19) else 0) = ji20 := hji20
         by_cases c21 : t128 = (ji20)
         ·rw [if_pos c21] at H
          have c21b0 : (t128 == (ji20)) = true := beq_iff_eq.mpr c21
          have c21b1 : (t128 != (ji20)) = false := bne_eq_false_iff_eq.mpr c21
          clear c21
          replace H := Option.bind_eq_some_iff.mp H
          obtain ⟨t130, A220, H⟩ := H
          replace H : ((label_Count.f (a0.extract t127.size a0.size)).bind fun t131 => ((label_Count.f a0).bind fun t132 => (if (wrap64 (t130 + t131)) = t132 then ((label_Valid.f a0).bind fun t133 => (if t133 = true then ((label_Valid.f t127).bind fun t134 => (if t134 = true then ((label_Valid.f (a0.extract t127.size a0.size)).bind fun t135 => (some t135)) else (some false))) else (some true))) else (some false)))) = some r := H
          have A22 := Aside0.mk A220
          clear A220
          replace H := Option.bind_eq_some_iff.mp H
          obtain ⟨t131, A230, H⟩ := H
          replace H : ((label_Count.f a0).bind fun t132 => (if (wrap64 (t130 + t131)) = t132 then ((label_Valid.f a0).bind fun t133 => (if t133 = true then ((label_Valid.f t127).bind fun t134 => (if t134 = true then ((label_Valid.f (a0.extract t127.size a0.size)).bind fun t135 => (some t135)) else (some false))) else (some true))) else (some false))) = some r := H
          have A23 := Aside0.mk A230
          clear A230
          replace H := Option.bind_eq_some_iff.mp H
          obtain ⟨t132, A240, H⟩ := H
          replace H : (if (wrap64 (t130 + t131)) = t132 then ((label_Valid.f a0).bind fun t133 => (if t133 = true then ((label_Valid.f t127).bind fun t134 => (if t134 = true then ((label_Valid.f (a0.extract t127.size a0.size)).bind fun t135 => (some t135)) else (some false))) else (some true))) else (some false)) = some r := H
          have A24 := Aside0.mk A240
          clear A240
          by_cases c25 : (wrap64 (t130 + t131)) = t132
          ·rw [if_pos c25] at H
           have c25b0 : ((wrap64 (t130 + t131)) == t132) = true := beq_iff_eq.mpr c25
           have c25b1 : ((wrap64 (t130 + t131)) != t132) = false := bne_eq_false_iff_eq.mpr c25
           clear c25
           replace H := Option.bind_eq_some_iff.mp H
           obtain ⟨t133, A260, H⟩ := H
           replace H : (if t133 = true then ((label_Valid.f t127).bind fun t134 => (if t134 = true then ((label_Valid.f (a0.extract t127.size a0.size)).bind fun t135 => (some t135)) else (some false))) else (some true)) = some r := H
           have A26 := Aside0.mk A260
           clear A260
           by_cases c27 : t133 = true
           ·subst c27
            have H1 : ((label_Valid.f t127).bind fun t134 => (if t134 = true then ((label_Valid.f (a0.extract t127.size a0.size)).bind fun t135 => (some t135)) else (some false))) = some r := by rw [if_pos rfl] at H; exact H
            clear H
            have H := H1
            clear H1
            replace H := Option.bind_eq_some_iff.mp H
            obtain ⟨t134, A280, H⟩ := H
            replace H : (if t134 = true then ((label_Valid.f (a0.extract t127.size a0.size)).bind fun t135 => (some t135)) else (some false)) = some r := H
            have A28 := Aside0.mk A280
            clear A280
            by_cases c29 : t134 = true
            ·subst c29
             have H1 : ((label_Valid.f (a0.extract t127.size a0.size)).bind fun t135 => (some t135)) = some r := by rw [if_pos rfl] at H; exact H
             clear H
             have H := H1
             clear H1
             replace H := Option.bind_eq_some_iff.mp H
             obtain ⟨t135, A300, H⟩ := H
             replace H : (some t135) = some r := H
             have A30 := Aside0.mk A300
             clear A300
             obtain rfl := Option.some.inj H
             go_wp2_with (first | ((with_reducible refine gate_callee (f := 14) rfl ?_); refine goesL_ (some 38) rfl rfl Tryd.func14 (by kernel_rfl) rfl #[.string t127] rfl (by (try simp only [List.map_toArray, List.map_cons, List.map_nil]); first | done | rfl | (simp only [List.length_drop, List.length_take]; rfl) | (rw [wrap_sum2 (by assumption)]; rfl)) ?_; (with_reducible refine (label_Count.calls t127 t128 _ A17.out).mono ?_); rintro e w31 ⟨rfl, hb⟩; refine ⟨_, rfl, ?_⟩; have n0_ := Aside0.mk (below_step (by repeat (first | (with_reducible first | exact HB.out | apply below_alloc | apply pw_below_drewN | apply below_drew1) | exact HB.out)) hb); clear HB; have HB := n0_; clear n0_; (try clear hb); (try clear hb2); (try clear hk); (try clear hi)) | ((with_reducible refine gate_callee (f := 14) rfl ?_); refine goesL_ (some 41) rfl rfl Tryd.func14 (by kernel_rfl) rfl #[.string a0] rfl (by (try simp only [List.map_toArray, List.map_cons, List.map_nil]); first | done | rfl | (simp only [List.length_drop, List.length_take]; rfl) | (rw [wrap_sum2 (by assumption)]; rfl)) ?_; (with_reducible refine (label_Count.calls a0 t129 _ A18.out).mono ?_); rintro e w32 ⟨rfl, hb⟩; refine ⟨_, rfl, ?_⟩; have n0_ := Aside0.mk (below_step (by repeat (first | (with_reducible first | exact HB.out | apply below_alloc | apply pw_below_drewN | apply below_drew1) | exact HB.out)) hb); clear HB; have HB := n0_; clear n0_; (try clear hb); (try clear hb2); (try clear hk); (try clear hi)) | (go_at_call 14; (with_reducible refine (label_Count.calls t127 t130 _ A22.out).mono ?_); rintro e w33 ⟨rfl, hb⟩; have n0_ := Aside0.mk (below_step (by repeat (first | (with_reducible first | exact HB.out | apply below_alloc | apply pw_below_drewN | apply below_drew1) | exact HB.out)) hb); clear HB; have HB := n0_; clear n0_; (try clear hb); (try clear hb2); (try clear hk); (try clear hi)) | (go_at_call 14; (with_reducible refine (label_Count.calls (a0.extract t127.size a0.size) t131 _ A23.out).mono ?_); rintro e w34 ⟨rfl, hb⟩; have n0_ := Aside0.mk (below_step (by repeat (first | (with_reducible first | exact HB.out | apply below_alloc | apply pw_below_drewN | apply below_drew1) | exact HB.out)) hb); clear HB; have HB := n0_; clear n0_; (try clear hb); (try clear hb2); (try clear hk); (try clear hi)) | (go_at_call 14; (with_reducible refine (label_Count.calls a0 t132 _ A24.out).mono ?_); rintro e w35 ⟨rfl, hb⟩; have n0_ := Aside0.mk (below_step (by repeat (first | (with_reducible first | exact HB.out | apply below_alloc | apply pw_below_drewN | apply below_drew1) | exact HB.out)) hb); clear HB; have HB := n0_; clear n0_; (try clear hb); (try clear hb2); (try clear hk); (try clear hi)) | (go_at_call 12; (with_reducible refine (label_Valid.calls a0 true _ A26.out (HT.below (by repeat (first | (with_reducible first | exact HB.out | apply below_alloc | apply pw_below_drewN | apply below_drew1) | exact HB.out)))).mono ?_); rintro e w36 ⟨rfl, hb⟩; have n0_ := Aside0.mk (below_step (by repeat (first | (with_reducible first | exact HB.out | apply below_alloc | apply pw_below_drewN | apply below_drew1) | exact HB.out)) hb); clear HB; have HB := n0_; clear n0_; (try clear hb); (try clear hb2); (try clear hk); (try clear hi)) | (go_at_call 12; (with_reducible refine (label_Valid.calls t127 true _ A28.out (HT.below (by repeat (first | (with_reducible first | exact HB.out | apply below_alloc | apply pw_below_drewN | apply below_drew1) | exact HB.out)))).mono ?_); rintro e w37 ⟨rfl, hb⟩; have n0_ := Aside0.mk (below_step (by repeat (first | (with_reducible first | exact HB.out | apply below_alloc | apply pw_below_drewN | apply below_drew1) | exact HB.out)) hb); clear HB; have HB := n0_; clear n0_; (try clear hb); (try clear hb2); (try clear hk); (try clear hi)) | (go_at_call 12; (with_reducible refine (label_Valid.calls (a0.extract t127.size a0.size) t135 _ A30.out (HT.below (by repeat (first | (with_reducible first | exact HB.out | apply below_alloc | apply pw_below_drewN | apply below_drew1) | exact HB.out)))).mono ?_); rintro e w38 ⟨rfl, hb⟩; have n0_ := Aside0.mk (below_step (by repeat (first | (with_reducible first | exact HB.out | apply below_alloc | apply pw_below_drewN | apply below_drew1) | exact HB.out)) hb); clear HB; have HB := n0_; clear n0_; (try clear hb); (try clear hb2); (try clear hk); (try clear hi)))
             go_ret
             exact ⟨by first | rfl | (simp [errW_none, errW_some] <;> rfl) | (simp only [← hji19, ← hji20]; first | rfl | (simp [errW_none, errW_some] <;> rfl)) | (simp [*, errW_none, errW_some] <;> rfl), by repeat (first | (with_reducible first | exact HB.out | apply below_alloc | apply pw_below_drewN | apply below_drew1) | exact HB.out)⟩
            ·replace c29 := Bool.eq_false_iff.mpr c29
             subst c29
             have H1 : (some false) = some r := by rw [if_neg (show ¬ (false = true) by decide)] at H; exact H
             clear H
             have H := H1
             clear H1
             obtain rfl := Option.some.inj H
             go_wp2_with (first | ((with_reducible refine gate_callee (f := 14) rfl ?_); refine goesL_ (some 38) rfl rfl Tryd.func14 (by kernel_rfl) rfl #[.string t127] rfl (by (try simp only [List.map_toArray, List.map_cons, List.map_nil]); first | done | rfl | (simp only [List.length_drop, List.length_take]; rfl) | (rw [wrap_sum2 (by assumption)]; rfl)) ?_; (with_reducible refine (label_Count.calls t127 t128 _ A17.out).mono ?_); rintro e w39 ⟨rfl, hb⟩; refine ⟨_, rfl, ?_⟩; have n0_ := Aside0.mk (below_step (by repeat (first | (with_reducible first | exact HB.out | apply below_alloc | apply pw_below_drewN | apply below_drew1) | exact HB.out)) hb); clear HB; have HB := n0_; clear n0_; (try clear hb); (try clear hb2); (try clear hk); (try clear hi)) | ((with_reducible refine gate_callee (f := 14) rfl ?_); refine goesL_ (some 41) rfl rfl Tryd.func14 (by kernel_rfl) rfl #[.string a0] rfl (by (try simp only [List.map_toArray, List.map_cons, List.map_nil]); first | done | rfl | (simp only [List.length_drop, List.length_take]; rfl) | (rw [wrap_sum2 (by assumption)]; rfl)) ?_; (with_reducible refine (label_Count.calls a0 t129 _ A18.out).mono ?_); rintro e w40 ⟨rfl, hb⟩; refine ⟨_, rfl, ?_⟩; have n0_ := Aside0.mk (below_step (by repeat (first | (with_reducible first | exact HB.out | apply below_alloc | apply pw_below_drewN | apply below_drew1) | exact HB.out)) hb); clear HB; have HB := n0_; clear n0_; (try clear hb); (try clear hb2); (try clear hk); (try clear hi)) | (go_at_call 14; (with_reducible refine (label_Count.calls t127 t130 _ A22.out).mono ?_); rintro e w41 ⟨rfl, hb⟩; have n0_ := Aside0.mk (below_step (by repeat (first | (with_reducible first | exact HB.out | apply below_alloc | apply pw_below_drewN | apply below_drew1) | exact HB.out)) hb); clear HB; have HB := n0_; clear n0_; (try clear hb); (try clear hb2); (try clear hk); (try clear hi)) | (go_at_call 14; (with_reducible refine (label_Count.calls (a0.extract t127.size a0.size) t131 _ A23.out).mono ?_); rintro e w42 ⟨rfl, hb⟩; have n0_ := Aside0.mk (below_step (by repeat (first | (with_reducible first | exact HB.out | apply below_alloc | apply pw_below_drewN | apply below_drew1) | exact HB.out)) hb); clear HB; have HB := n0_; clear n0_; (try clear hb); (try clear hb2); (try clear hk); (try clear hi)) | (go_at_call 14; (with_reducible refine (label_Count.calls a0 t132 _ A24.out).mono ?_); rintro e w43 ⟨rfl, hb⟩; have n0_ := Aside0.mk (below_step (by repeat (first | (with_reducible first | exact HB.out | apply below_alloc | apply pw_below_drewN | apply below_drew1) | exact HB.out)) hb); clear HB; have HB := n0_; clear n0_; (try clear hb); (try clear hb2); (try clear hk); (try clear hi)) | (go_at_call 12; (with_reducible refine (label_Valid.calls a0 true _ A26.out (HT.below (by repeat (first | (with_reducible first | exact HB.out | apply below_alloc | apply pw_below_drewN | apply below_drew1) | exact HB.out)))).mono ?_); rintro e w44 ⟨rfl, hb⟩; have n0_ := Aside0.mk (below_step (by repeat (first | (with_reducible first | exact HB.out | apply below_alloc | apply pw_below_drewN | apply below_drew1) | exact HB.out)) hb); clear HB; have HB := n0_; clear n0_; (try clear hb); (try clear hb2); (try clear hk); (try clear hi)) | (go_at_call 12; (with_reducible refine (label_Valid.calls t127 false _ A28.out (HT.below (by repeat (first | (with_reducible first | exact HB.out | apply below_alloc | apply pw_below_drewN | apply below_drew1) | exact HB.out)))).mono ?_); rintro e w45 ⟨rfl, hb⟩; have n0_ := Aside0.mk (below_step (by repeat (first | (with_reducible first | exact HB.out | apply below_alloc | apply pw_below_drewN | apply below_drew1) | exact HB.out)) hb); clear HB; have HB := n0_; clear n0_; (try clear hb); (try clear hb2); (try clear hk); (try clear hi)))
             go_ret
             exact ⟨by first | rfl | (simp [errW_none, errW_some] <;> rfl) | (simp only [← hji19, ← hji20]; first | rfl | (simp [errW_none, errW_some] <;> rfl)) | (simp [*, errW_none, errW_some] <;> rfl), by repeat (first | (with_reducible first | exact HB.out | apply below_alloc | apply pw_below_drewN | apply below_drew1) | exact HB.out)⟩
           ·replace c27 := Bool.eq_false_iff.mpr c27
            subst c27
            have H1 : (some true) = some r := by rw [if_neg (show ¬ (false = true) by decide)] at H; exact H
            clear H
            have H := H1
            clear H1
            obtain rfl := Option.some.inj H
            go_wp2_with (first | ((with_reducible refine gate_callee (f := 14) rfl ?_); refine goesL_ (some 38) rfl rfl Tryd.func14 (by kernel_rfl) rfl #[.string t127] rfl (by (try simp only [List.map_toArray, List.map_cons, List.map_nil]); first | done | rfl | (simp only [List.length_drop, List.length_take]; rfl) | (rw [wrap_sum2 (by assumption)]; rfl)) ?_; (with_reducible refine (label_Count.calls t127 t128 _ A17.out).mono ?_); rintro e w46 ⟨rfl, hb⟩; refine ⟨_, rfl, ?_⟩; have n0_ := Aside0.mk (below_step (by repeat (first | (with_reducible first | exact HB.out | apply below_alloc | apply pw_below_drewN | apply below_drew1) | exact HB.out)) hb); clear HB; have HB := n0_; clear n0_; (try clear hb); (try clear hb2); (try clear hk); (try clear hi)) | ((with_reducible refine gate_callee (f := 14) rfl ?_); refine goesL_ (some 41) rfl rfl Tryd.func14 (by kernel_rfl) rfl #[.string a0] rfl (by (try simp only [List.map_toArray, List.map_cons, List.map_nil]); first | done | rfl | (simp only [List.length_drop, List.length_take]; rfl) | (rw [wrap_sum2 (by assumption)]; rfl)) ?_; (with_reducible refine (label_Count.calls a0 t129 _ A18.out).mono ?_); rintro e w47 ⟨rfl, hb⟩; refine ⟨_, rfl, ?_⟩; have n0_ := Aside0.mk (below_step (by repeat (first | (with_reducible first | exact HB.out | apply below_alloc | apply pw_below_drewN | apply below_drew1) | exact HB.out)) hb); clear HB; have HB := n0_; clear n0_; (try clear hb); (try clear hb2); (try clear hk); (try clear hi)) | (go_at_call 14; (with_reducible refine (label_Count.calls t127 t130 _ A22.out).mono ?_); rintro e w48 ⟨rfl, hb⟩; have n0_ := Aside0.mk (below_step (by repeat (first | (with_reducible first | exact HB.out | apply below_alloc | apply pw_below_drewN | apply below_drew1) | exact HB.out)) hb); clear HB; have HB := n0_; clear n0_; (try clear hb); (try clear hb2); (try clear hk); (try clear hi)) | (go_at_call 14; (with_reducible refine (label_Count.calls (a0.extract t127.size a0.size) t131 _ A23.out).mono ?_); rintro e w49 ⟨rfl, hb⟩; have n0_ := Aside0.mk (below_step (by repeat (first | (with_reducible first | exact HB.out | apply below_alloc | apply pw_below_drewN | apply below_drew1) | exact HB.out)) hb); clear HB; have HB := n0_; clear n0_; (try clear hb); (try clear hb2); (try clear hk); (try clear hi)) | (go_at_call 14; (with_reducible refine (label_Count.calls a0 t132 _ A24.out).mono ?_); rintro e w50 ⟨rfl, hb⟩; have n0_ := Aside0.mk (below_step (by repeat (first | (with_reducible first | exact HB.out | apply below_alloc | apply pw_below_drewN | apply below_drew1) | exact HB.out)) hb); clear HB; have HB := n0_; clear n0_; (try clear hb); (try clear hb2); (try clear hk); (try clear hi)) | (go_at_call 12; (with_reducible refine (label_Valid.calls a0 false _ A26.out (HT.below (by repeat (first | (with_reducible first | exact HB.out | apply below_alloc | apply pw_below_drewN | apply below_drew1) | exact HB.out)))).mono ?_); rintro e w51 ⟨rfl, hb⟩; have n0_ := Aside0.mk (below_step (by repeat (first | (with_reducible first | exact HB.out | apply below_alloc | apply pw_below_drewN | apply below_drew1) | exact HB.out)) hb); clear HB; have HB := n0_; clear n0_; (try clear hb); (try clear hb2); (try clear hk); (try clear hi)))
            go_ret
            exact ⟨by first | rfl | (simp [errW_none, errW_some] <;> rfl) | (simp only [← hji19, ← hji20]; first | rfl | (simp [errW_none, errW_some] <;> rfl)) | (simp [*, errW_none, errW_some] <;> rfl), by repeat (first | (with_reducible first | exact HB.out | apply below_alloc | apply pw_below_drewN | apply below_drew1) | exact HB.out)⟩
          ·rw [if_neg c25] at H
           have c25b0 : ((wrap64 (t130 + t131)) == t132) = false := beq_eq_false_iff_ne.mpr c25
           have c25b1 : ((wrap64 (t130 + t131)) != t132) = true := bne_iff_ne.mpr c25
           obtain rfl := Option.some.inj H
           go_wp2_with (first | ((with_reducible refine gate_callee (f := 14) rfl ?_); refine goesL_ (some 38) rfl rfl Tryd.func14 (by kernel_rfl) rfl #[.string t127] rfl (by (try simp only [List.map_toArray, List.map_cons, List.map_nil]); first | done | rfl | (simp only [List.length_drop, List.length_take]; rfl) | (rw [wrap_sum2 (by assumption)]; rfl)) ?_; (with_reducible refine (label_Count.calls t127 t128 _ A17.out).mono ?_); rintro e w52 ⟨rfl, hb⟩; refine ⟨_, rfl, ?_⟩; have n0_ := Aside0.mk (below_step (by repeat (first | (with_reducible first | exact HB.out | apply below_alloc | apply pw_below_drewN | apply below_drew1) | exact HB.out)) hb); clear HB; have HB := n0_; clear n0_; (try clear hb); (try clear hb2); (try clear hk); (try clear hi)) | ((with_reducible refine gate_callee (f := 14) rfl ?_); refine goesL_ (some 41) rfl rfl Tryd.func14 (by kernel_rfl) rfl #[.string a0] rfl (by (try simp only [List.map_toArray, List.map_cons, List.map_nil]); first | done | rfl | (simp only [List.length_drop, List.length_take]; rfl) | (rw [wrap_sum2 (by assumption)]; rfl)) ?_; (with_reducible refine (label_Count.calls a0 t129 _ A18.out).mono ?_); rintro e w53 ⟨rfl, hb⟩; refine ⟨_, rfl, ?_⟩; have n0_ := Aside0.mk (below_step (by repeat (first | (with_reducible first | exact HB.out | apply below_alloc | apply pw_below_drewN | apply below_drew1) | exact HB.out)) hb); clear HB; have HB := n0_; clear n0_; (try clear hb); (try clear hb2); (try clear hk); (try clear hi)) | (go_at_call 14; (with_reducible refine (label_Count.calls t127 t130 _ A22.out).mono ?_); rintro e w54 ⟨rfl, hb⟩; have n0_ := Aside0.mk (below_step (by repeat (first | (with_reducible first | exact HB.out | apply below_alloc | apply pw_below_drewN | apply below_drew1) | exact HB.out)) hb); clear HB; have HB := n0_; clear n0_; (try clear hb); (try clear hb2); (try clear hk); (try clear hi)) | (go_at_call 14; (with_reducible refine (label_Count.calls (a0.extract t127.size a0.size) t131 _ A23.out).mono ?_); rintro e w55 ⟨rfl, hb⟩; have n0_ := Aside0.mk (below_step (by repeat (first | (with_reducible first | exact HB.out | apply below_alloc | apply pw_below_drewN | apply below_drew1) | exact HB.out)) hb); clear HB; have HB := n0_; clear n0_; (try clear hb); (try clear hb2); (try clear hk); (try clear hi)) | (go_at_call 14; (with_reducible refine (label_Count.calls a0 t132 _ A24.out).mono ?_); rintro e w56 ⟨rfl, hb⟩; have n0_ := Aside0.mk (below_step (by repeat (first | (with_reducible first | exact HB.out | apply below_alloc | apply pw_below_drewN | apply below_drew1) | exact HB.out)) hb); clear HB; have HB := n0_; clear n0_; (try clear hb); (try clear hb2); (try clear hk); (try clear hi)))
           go_ret
           exact ⟨by first | rfl | (simp [errW_none, errW_some] <;> rfl) | (simp only [← hji19, ← hji20]; first | rfl | (simp [errW_none, errW_some] <;> rfl)) | (simp [*, errW_none, errW_some] <;> rfl), by repeat (first | (with_reducible first | exact HB.out | apply below_alloc | apply pw_below_drewN | apply below_drew1) | exact HB.out)⟩
         ·rw [if_neg c21] at H
          have c21b0 : (t128 == (ji20)) = false := beq_eq_false_iff_ne.mpr c21
          have c21b1 : (t128 != (ji20)) = true := bne_iff_ne.mpr c21
          obtain rfl := Option.some.inj H
          go_wp2_with (first | ((with_reducible refine gate_callee (f := 14) rfl ?_); refine goesL_ (some 38) rfl rfl Tryd.func14 (by kernel_rfl) rfl #[.string t127] rfl (by (try simp only [List.map_toArray, List.map_cons, List.map_nil]); first | done | rfl | (simp only [List.length_drop, List.length_take]; rfl) | (rw [wrap_sum2 (by assumption)]; rfl)) ?_; (with_reducible refine (label_Count.calls t127 t128 _ A17.out).mono ?_); rintro e w57 ⟨rfl, hb⟩; refine ⟨_, rfl, ?_⟩; have n0_ := Aside0.mk (below_step (by repeat (first | (with_reducible first | exact HB.out | apply below_alloc | apply pw_below_drewN | apply below_drew1) | exact HB.out)) hb); clear HB; have HB := n0_; clear n0_; (try clear hb); (try clear hb2); (try clear hk); (try clear hi)) | ((with_reducible refine gate_callee (f := 14) rfl ?_); refine goesL_ (some 41) rfl rfl Tryd.func14 (by kernel_rfl) rfl #[.string a0] rfl (by (try simp only [List.map_toArray, List.map_cons, List.map_nil]); first | done | rfl | (simp only [List.length_drop, List.length_take]; rfl) | (rw [wrap_sum2 (by assumption)]; rfl)) ?_; (with_reducible refine (label_Count.calls a0 t129 _ A18.out).mono ?_); rintro e w58 ⟨rfl, hb⟩; refine ⟨_, rfl, ?_⟩; have n0_ := Aside0.mk (below_step (by repeat (first | (with_reducible first | exact HB.out | apply below_alloc | apply pw_below_drewN | apply below_drew1) | exact HB.out)) hb); clear HB; have HB := n0_; clear n0_; (try clear hb); (try clear hb2); (try clear hk); (try clear hi)))
          go_ret
          exact ⟨by first | rfl | (simp [errW_none, errW_some] <;> rfl) | (simp only [← hji19, ← hji20]; first | rfl | (simp [errW_none, errW_some] <;> rfl)) | (simp [*, errW_none, errW_some] <;> rfl), by repeat (first | (with_reducible first | exact HB.out | apply below_alloc | apply pw_below_drewN | apply below_drew1) | exact HB.out)⟩
        ·rw [if_neg c16] at H
         exact absurd H (by simp)
       ·rw [if_neg c15] at H
        exact absurd H (by simp)


end Go.Proofs.YtapkghkcaflkmaaDoor.Fn
end
section
-- Written by printx.py, a program of this session over the kit's print: each Go function as a plain Lean function, and that the Go code computes it.


namespace Go.Proofs.YtapkghkcaflkmaaDoor.Fn
open Go.RowKit Go.Proofs.YtapkghkcaflkmaaDoorW.PrintWords Go.Proofs.YtapkghkcaflkmaaDoorW.PrintLast Go.Proofs.YtapkghkcaflkmaaDoorW.PrintMore Go.Proofs.YtapkghkcaflkmaaDoor.Lf
attribute [local go_sem] max2_int min2_int max_two min_two max_three min_three max_four min_four   -- for this text's walks alone
set_option linter.unusedVariables false
set_option linter.unusedSimpArgs false

/-! ### rootcellarlaw1_LabelFirst: function 5 -/
mutual
def rootcellarlaw1_LabelFirst.j0 : Nat → ByteArray → Int → Int → Bool → Bool → Option (Bool)
 | 0, _, _, _, _, _ => none
 | k + 1, x0, x1, x2, x7, x18 => if x18 = true then (some x7) else ((label_First.f x0 x1).bind fun t137 => ((label_First.f t137 x2).bind fun t138 => ((label_First.f x0 (mn x1 x2)).bind fun t139 => (if t138.toList = t139.toList then (rootcellarlaw1_LabelFirst.l0 k x0 x0 0) else (some false)))))
def rootcellarlaw1_LabelFirst.l0 : Nat → ByteArray → ByteArray → Int → Option (Bool)
 | 0, _, _, _ => none
 | k + 1, x0, x8, x9 => if x8.toList = ([] : List UInt8) then ((label_Count.f x0).bind fun t140 => (some (x9 == t140))) else ((label_First.f x8 1).bind fun t141 => (if t141.toList = ([] : List UInt8) then (some false) else (if (t141.size : Int) > 4 then (some false) else ((label_Count.f t141).bind fun t142 => (if t142 = 1 then (if 0 ≤ (t141.size : Int) then (if (t141.size : Int) ≤ (x8.size : Int) then (rootcellarlaw1_LabelFirst.l0 k x0 (x8.extract ((t141.size : Int) : Int).toNat x8.size) (wrap64 (x9 + 1))) else (none)) else (none)) else (some false))))))
end
def rootcellarlaw1_LabelFirst.f (k : Nat) (a0 : ByteArray) (a1 : Int) (a2 : Int) : Option (Bool) := (rootcellarlaw1_shown.f).bind fun t136 => (if t136 = true then (rootcellarlaw1_LabelFirst.j0 k a0 a1 a2 t136 (decide ((a0.size : Int) > 400))) else (rootcellarlaw1_LabelFirst.j0 k a0 a1 a2 t136 true))
theorem rootcellarlaw1_LabelFirst.mono_l : ∀ k, (∀ y0 y1 y2 y3 y4, LeO (rootcellarlaw1_LabelFirst.j0 k y0 y1 y2 y3 y4) (rootcellarlaw1_LabelFirst.j0 (k + 1) y0 y1 y2 y3 y4)) ∧ (∀ y0 y1 y2, LeO (rootcellarlaw1_LabelFirst.l0 k y0 y1 y2) (rootcellarlaw1_LabelFirst.l0 (k + 1) y0 y1 y2))
 | 0 => ⟨fun _ _ _ _ _ r h => by simp [rootcellarlaw1_LabelFirst.j0] at h, fun _ _ _ r h => by simp [rootcellarlaw1_LabelFirst.l0] at h⟩
 | k + 1 => by
  obtain ⟨ih0, ih1⟩ := rootcellarlaw1_LabelFirst.mono_l k
  refine ⟨?_, ?_⟩
  ·intro y0 y1 y2 y3 y4
   unfold rootcellarlaw1_LabelFirst.j0
   repeat' first
   | (with_reducible exact ih0 _ _ _ _ _)
   | (with_reducible exact ih1 _ _ _)
   | (with_reducible exact LeO.refl _)
   | (with_reducible exact LeO.none _)
   | (with_reducible refine LeO.ite ?_ ?_)
   | (with_reducible refine LeO.bind ?_ (fun _ => ?_))
   | exact ih0 _ _ _ _ _
   | exact ih1 _ _ _
   | exact LeO.none _
   | refine LeO.ite ?_ ?_
   | refine LeO.bind ?_ (fun _ => ?_)
  ·intro y0 y1 y2
   unfold rootcellarlaw1_LabelFirst.l0
   repeat' first
   | (with_reducible exact ih0 _ _ _ _ _)
   | (with_reducible exact ih1 _ _ _)
   | (with_reducible exact LeO.refl _)
   | (with_reducible exact LeO.none _)
   | (with_reducible refine LeO.ite ?_ ?_)
   | (with_reducible refine LeO.bind ?_ (fun _ => ?_))
   | exact ih0 _ _ _ _ _
   | exact ih1 _ _ _
   | exact LeO.none _
   | refine LeO.ite ?_ ?_
   | refine LeO.bind ?_ (fun _ => ?_)
theorem rootcellarlaw1_LabelFirst.mono : ∀ a0 a1 a2 k, LeO (rootcellarlaw1_LabelFirst.f k a0 a1 a2) (rootcellarlaw1_LabelFirst.f (k + 1) a0 a1 a2) := by
 intro a0 a1 a2 k
 obtain ⟨ih0, ih1⟩ := rootcellarlaw1_LabelFirst.mono_l k
 unfold rootcellarlaw1_LabelFirst.f
 repeat' first
   | (with_reducible exact ih0 _ _ _ _ _)
   | (with_reducible exact ih1 _ _ _)
   | (with_reducible exact LeO.refl _)
   | (with_reducible exact LeO.none _)
   | (with_reducible refine LeO.ite ?_ ?_)
   | (with_reducible refine LeO.bind ?_ (fun _ => ?_))
   | exact ih0 _ _ _ _ _
   | exact ih1 _ _ _
   | exact LeO.none _
   | refine LeO.ite ?_ ?_
   | refine LeO.bind ?_ (fun _ => ?_)
set_option maxHeartbeats 8000000 in
set_option maxRecDepth 100000 in
theorem rootcellarlaw1_LabelFirst.calls (k : Nat) (a0 : ByteArray) (a1 : Int) (a2 : Int) (r : Bool) (w : World) (h : rootcellarlaw1_LabelFirst.f k a0 a1 a2 = some r) (HT : Tabs w) :
  Calls Tryd.prog 5 #[.string a0, .int .i64 a1, .int .i64 a2] w fun e w' => e = .returned (.bool r) ∧ Below w.heap.size w w' := by
 have HB := Aside0.mk (Below.refl w.heap.size w)
 have H : ((rootcellarlaw1_shown.f).bind fun t136 => (if t136 = true then (rootcellarlaw1_LabelFirst.j0 k a0 a1 a2 t136 (decide ((a0.size : Int) > 400))) else (rootcellarlaw1_LabelFirst.j0 k a0 a1 a2 t136 true))) = some r := h
 clear h
 replace H := Option.bind_eq_some_iff.mp H
 obtain ⟨t136, A40, H⟩ := H
 replace H : (if t136 = true then (rootcellarlaw1_LabelFirst.j0 k a0 a1 a2 t136 (decide ((a0.size : Int) > 400))) else (rootcellarlaw1_LabelFirst.j0 k a0 a1 a2 t136 true)) = some r := H
 have A4 := Aside0.mk A40
 clear A40
 have HC5 := Aside0.mk H
 clear H
 go_enter Tryd.func5, Tryd.ntmps5
 go_upto_region 2 with (first | ((with_reducible refine gate_callee (f := 11) rfl ?_); refine goesL_ (some 11) rfl rfl Tryd.func11 (by kernel_rfl) rfl #[] rfl (by (try simp only [List.map_toArray, List.map_cons, List.map_nil]); first | done | rfl | (simp only [List.length_drop, List.length_take]; rfl) | (rw [wrap_sum2 (by assumption)]; rfl)) ?_; (with_reducible refine (rootcellarlaw1_shown.calls  t136 _ A4.out (HT.below (by repeat (first | (with_reducible first | exact HB.out | apply below_alloc | apply pw_below_drewN | apply below_drew1) | exact HB.out)))).mono ?_); rintro e w6 ⟨rfl, hb⟩; refine ⟨_, rfl, ?_⟩; have n0_ := Aside0.mk (below_step (by repeat (first | (with_reducible first | exact HB.out | apply below_alloc | apply pw_below_drewN | apply below_drew1) | exact HB.out)) hb); clear HB; have HB := n0_; clear n0_; (try clear hb); (try clear hb2); (try clear hk); (try clear hi)))
 (try simp only [Act.put, List.setIfInBounds_toArray, List.set_cons_zero, List.set_cons_succ])
 go_cut [18] (fun v18 wc => ∃ (kq : Nat) (x18_4 : Bool), v18 = .bool x18_4 ∧ Aside0 (rootcellarlaw1_LabelFirst.j0 kq a0 a1 a2 t136 x18_4 = some r) ∧ Aside0 (kq ≤ k) ∧ Aside0 (Below w.heap.size w wc))
 case first =>
  have H := HC5.out
  clear HC5
  by_cases c7 : t136 = true
  ·subst c7
   have H1 : (rootcellarlaw1_LabelFirst.j0 k a0 a1 a2 true (decide ((a0.size : Int) > 400))) = some r := by rw [if_pos rfl] at H; exact H
   clear H
   have H := H1
   clear H1
   have H' := Aside0.mk H
   clear H
   go_wp2
   go_meet
   case rel => exact ⟨_, (decide ((a0.size : Int) > 400)), (by first | rfl | (simp; done) | (simp [*]; done)), H', ⟨by first | omega | exact Nat.le_refl _⟩, ⟨by repeat (first | (with_reducible first | exact HB.out | apply below_alloc | apply pw_below_drewN | apply below_drew1) | exact HB.out)⟩⟩
  ·replace c7 := Bool.eq_false_iff.mpr c7
   subst c7
   have H1 : (rootcellarlaw1_LabelFirst.j0 k a0 a1 a2 false true) = some r := by rw [if_neg (show ¬ (false = true) by decide)] at H; exact H
   clear H
   have H := H1
   clear H1
   have H' := Aside0.mk H
   clear H
   go_wp2
   go_meet
   case rel => exact ⟨_, (true), (by first | rfl | (simp; done) | (simp [*]; done)), H', ⟨by first | omega | exact Nat.le_refl _⟩, ⟨by repeat (first | (with_reducible first | exact HB.out | apply below_alloc | apply pw_below_drewN | apply below_drew1) | exact HB.out)⟩⟩
 case rest =>
  clear HC5
  try clear c1
  try clear p2
  try clear c5
  try clear c7
  obtain ⟨kq, x18_4, rfl, HA, HJ4, HB⟩ := hcut
  cases kq with
  | zero => exact absurd HA.out (by simp [rootcellarlaw1_LabelFirst.j0])
  | succ kj4 =>
   have H := HA.out
   clear HA
   simp only [rootcellarlaw1_LabelFirst.j0] at H
   by_cases c8 : x18_4 = true
   ·subst c8
    have H1 : (some t136) = some r := by rw [if_pos rfl] at H; exact H
    clear H
    have H := H1
    clear H1
    obtain rfl := Option.some.inj H
    go_wp2
    go_ret
    exact ⟨by first | rfl | (simp [errW_none, errW_some] <;> rfl) | (simp [*, errW_none, errW_some] <;> rfl), by repeat (first | (with_reducible first | exact HB.out | apply below_alloc | apply pw_below_drewN | apply below_drew1) | exact HB.out)⟩
   ·replace c8 := Bool.eq_false_iff.mpr c8
    subst c8
    have H1 : ((label_First.f a0 a1).bind fun t137 => ((label_First.f t137 a2).bind fun t138 => ((label_First.f a0 (mn a1 a2)).bind fun t139 => (if t138.toList = t139.toList then (rootcellarlaw1_LabelFirst.l0 kj4 a0 a0 0) else (some false))))) = some r := by rw [if_neg (show ¬ (false = true) by decide)] at H; exact H
    clear H
    have H := H1
    clear H1
    replace H := Option.bind_eq_some_iff.mp H
    obtain ⟨t137, A90, H⟩ := H
    replace H : ((label_First.f t137 a2).bind fun t138 => ((label_First.f a0 (mn a1 a2)).bind fun t139 => (if t138.toList = t139.toList then (rootcellarlaw1_LabelFirst.l0 kj4 a0 a0 0) else (some false)))) = some r := H
    have A9 := Aside0.mk A90
    clear A90
    replace H := Option.bind_eq_some_iff.mp H
    obtain ⟨t138, A100, H⟩ := H
    replace H : ((label_First.f a0 (mn a1 a2)).bind fun t139 => (if t138.toList = t139.toList then (rootcellarlaw1_LabelFirst.l0 kj4 a0 a0 0) else (some false))) = some r := H
    have A10 := Aside0.mk A100
    clear A100
    obtain ⟨ji11, hji11⟩ : ∃ j_ : Int, (mn a1 a2) = j_ := ⟨_, rfl⟩
    replace H : ((label_First.f a0 (ji11)).bind fun t139 => (if t138.toList = t139.toList then (rootcellarlaw1_LabelFirst.l0 kj4 a0 a0 0) else (some false))) = some r := by first | (rw [hji11] at H; exact H) | (simp only [hji11] at H ⊢; exact H)
    (try rw [hji11] at A9)
    (try rw [hji11] at A10)
    have hji11_ : (if a2 < a1 then a2 else a1) = ji11 := hji11
    replace H := Option.bind_eq_some_iff.mp H
    obtain ⟨t139, A120, H⟩ := H
    replace H : (if t138.toList = t139.toList then (rootcellarlaw1_LabelFirst.l0 kj4 a0 a0 0) else (some false)) = some r := H
    have A12 := Aside0.mk A120
    clear A120
    by_cases c13 : t138.toList = t139.toList
    ·rw [if_pos c13] at H
     have c13b0 : (t138.toList == t139.toList) = true := beq_iff_eq.mpr c13
     have c13b1 : (t138.toList != t139.toList) = false := bne_eq_false_iff_eq.mpr c13
     clear c13
     have H' := Aside0.mk H
     clear H
     go_wp2_with (first | ((with_reducible refine gate_callee (f := 16) rfl ?_); refine goesL_ (some 22) rfl rfl Tryd.func16 (by kernel_rfl) rfl #[.string a0, .int .i64 a1] rfl (by (try simp only [List.map_toArray, List.map_cons, List.map_nil]); first | done | rfl | (simp only [List.length_drop, List.length_take]; rfl) | (rw [wrap_sum2 (by assumption)]; rfl)) ?_; (with_reducible refine (label_First.calls a0 a1 t137 _ A9.out).mono ?_); rintro e w14 ⟨rfl, hb⟩; refine ⟨_, rfl, ?_⟩; have n0_ := Aside0.mk (below_step (by repeat (first | (with_reducible first | exact HB.out | apply below_alloc | apply pw_below_drewN | apply below_drew1) | exact HB.out)) hb); clear HB; have HB := n0_; clear n0_; (try clear hb); (try clear hb2); (try clear hk); (try clear hi)) | ((with_reducible refine gate_callee (f := 16) rfl ?_); refine goesL_ (some 24) rfl rfl Tryd.func16 (by kernel_rfl) rfl #[.string t137, .int .i64 a2] rfl (by (try simp only [List.map_toArray, List.map_cons, List.map_nil]); first | done | rfl | (simp only [List.length_drop, List.length_take]; rfl) | (rw [wrap_sum2 (by assumption)]; rfl)) ?_; (with_reducible refine (label_First.calls t137 a2 t138 _ A10.out).mono ?_); rintro e w15 ⟨rfl, hb⟩; refine ⟨_, rfl, ?_⟩; have n0_ := Aside0.mk (below_step (by repeat (first | (with_reducible first | exact HB.out | apply below_alloc | apply pw_below_drewN | apply below_drew1) | exact HB.out)) hb); clear HB; have HB := n0_; clear n0_; (try clear hb); (try clear hb2); (try clear hk); (try clear hi)) | ((with_reducible refine gate_callee (f := 16) rfl ?_); refine goesL_ (some 29) rfl rfl Tryd.func16 (by kernel_rfl) rfl #[.string a0, .int .i64 ji11] rfl (by (try simp only [List.map_toArray, List.map_cons, List.map_nil]); first | done | (simp only [hji11]; rfl) | rfl | (simp only [List.length_drop, List.length_take]; rfl) | (rw [wrap_sum2 (by assumption)]; rfl)) ?_; (with_reducible refine (label_First.calls a0 ji11 t139 _ A12.out).mono ?_); rintro e w16 ⟨rfl, hb⟩; refine ⟨_, rfl, ?_⟩; have n0_ := Aside0.mk (below_step (by repeat (first | (with_reducible first | exact HB.out | apply below_alloc | apply pw_below_drewN | apply below_drew1) | exact HB.out)) hb); clear HB; have HB := n0_; clear n0_; (try clear hb); (try clear hb2); (try clear hk); (try clear hi)))
     go_loopg [8, 9] kj4 (fun kq v8 v9 w' => ∃ (x8_2 : ByteArray) (x9_2 : Int), v8 = .string x8_2 ∧ v9 = .int .i64 x9_2 ∧ Aside0 (rootcellarlaw1_LabelFirst.l0 kq a0 x8_2 x9_2 = some r) ∧ Aside0 (kq ≤ kj4) ∧ Aside0 (Below w.heap.size w w'))
     case atStart => exact ⟨(a0), (0), (by first | rfl | (simp; done) | (simp [*]; done)), (by first | rfl | (simp; done) | (simp [*]; done)), H', ⟨Nat.le_refl _⟩, ⟨by repeat (first | (with_reducible first | exact HB.out | apply below_alloc | apply pw_below_drewN | apply below_drew1) | exact HB.out)⟩⟩
     case round =>
      clear H'
      try clear c1
      try clear p2
      try clear c5
      try clear c7
      try clear c8
      try clear c11
      try clear c13
      try clear c13b0
      try clear c13b1
      try clear c16
      try clear p2
      obtain ⟨x8_2, x9_2, rfl, rfl, HA, HK2, HB⟩ := hrel
      cases gk with
      | zero => exact absurd HA.out (by simp [rootcellarlaw1_LabelFirst.l0])
      | succ k2 =>
       have H := HA.out
       clear HA
       simp only [rootcellarlaw1_LabelFirst.l0] at H
       by_cases c17 : x8_2.toList = ([] : List UInt8)
       ·rw [if_pos c17] at H
        have c17b0 : (x8_2.toList == ([] : List UInt8)) = true := beq_iff_eq.mpr c17
        have c17b1 : (x8_2.toList != ([] : List UInt8)) = false := bne_eq_false_iff_eq.mpr c17
        clear c17
        replace H := Option.bind_eq_some_iff.mp H
        obtain ⟨t140, A180, H⟩ := H
        replace H : (some (x9_2 == t140)) = some r := H
        have A18 := Aside0.mk A180
        clear A180
        obtain rfl := Option.some.inj H
        go_wp2_with (first | ((with_reducible refine gate_callee (f := 14) rfl ?_); refine goesL_ (some 56) rfl rfl Tryd.func14 (by kernel_rfl) rfl #[.string a0] rfl (by (try simp only [List.map_toArray, List.map_cons, List.map_nil]); first | done | rfl | (simp only [List.length_drop, List.length_take]; rfl) | (rw [wrap_sum2 (by assumption)]; rfl)) ?_; (with_reducible refine (label_Count.calls a0 t140 _ A18.out).mono ?_); rintro e w19 ⟨rfl, hb⟩; refine ⟨_, rfl, ?_⟩; have n0_ := Aside0.mk (below_step (by repeat (first | (with_reducible first | exact HB.out | apply below_alloc | apply pw_below_drewN | apply below_drew1) | exact HB.out)) hb); clear HB; have HB := n0_; clear n0_; (try clear hb); (try clear hb2); (try clear hk); (try clear hi)))
        go_ret
        exact ⟨by first | rfl | (simp [errW_none, errW_some] <;> rfl) | (simp only [← hji11]; first | rfl | (simp [errW_none, errW_some] <;> rfl)) | (simp [*, errW_none, errW_some] <;> rfl), by repeat (first | (with_reducible first | exact HB.out | apply below_alloc | apply pw_below_drewN | apply below_drew1) | exact HB.out)⟩
       ·rw [if_neg c17] at H
        have c17b0 : (x8_2.toList == ([] : List UInt8)) = false := beq_eq_false_iff_ne.mpr c17
        have c17b1 : (x8_2.toList != ([] : List UInt8)) = true := bne_iff_ne.mpr c17
        replace H := Option.bind_eq_some_iff.mp H
        obtain ⟨t141, A200, H⟩ := H
        replace H : (if t141.toList = ([] : List UInt8) then (some false) else (if (t141.size : Int) > 4 then (some false) else ((label_Count.f t141).bind fun t142 => (if t142 = 1 then (if 0 ≤ (t141.size : Int) then (if (t141.size : Int) ≤ (x8_2.size : Int) then (rootcellarlaw1_LabelFirst.l0 k2 a0 (x8_2.extract t141.size x8_2.size) (wrap64 (x9_2 + 1))) else (none)) else (none)) else (some false))))) = some r := H
        have A20 := Aside0.mk A200
        clear A200
        by_cases c21 : t141.toList = ([] : List UInt8)
        ·rw [if_pos c21] at H
         have c21b0 : (t141.toList == ([] : List UInt8)) = true := beq_iff_eq.mpr c21
         have c21b1 : (t141.toList != ([] : List UInt8)) = false := bne_eq_false_iff_eq.mpr c21
         clear c21
         obtain rfl := Option.some.inj H
         go_wp2_with (first | ((with_reducible refine gate_callee (f := 16) rfl ?_); refine goesL_ (some 35) rfl rfl Tryd.func16 (by kernel_rfl) rfl #[.string x8_2, .int .i64 1] rfl (by (try simp only [List.map_toArray, List.map_cons, List.map_nil]); first | done | rfl | (simp only [List.length_drop, List.length_take]; rfl) | (rw [wrap_sum2 (by assumption)]; rfl)) ?_; (with_reducible refine (label_First.calls x8_2 1 t141 _ A20.out).mono ?_); rintro e w22 ⟨rfl, hb⟩; refine ⟨_, rfl, ?_⟩; have n0_ := Aside0.mk (below_step (by repeat (first | (with_reducible first | exact HB.out | apply below_alloc | apply pw_below_drewN | apply below_drew1) | exact HB.out)) hb); clear HB; have HB := n0_; clear n0_; (try clear hb); (try clear hb2); (try clear hk); (try clear hi)))
         go_ret
         exact ⟨by first | rfl | (simp [errW_none, errW_some] <;> rfl) | (simp only [← hji11]; first | rfl | (simp [errW_none, errW_some] <;> rfl)) | (simp [*, errW_none, errW_some] <;> rfl), by repeat (first | (with_reducible first | exact HB.out | apply below_alloc | apply pw_below_drewN | apply below_drew1) | exact HB.out)⟩
        ·rw [if_neg c21] at H
         have c21b0 : (t141.toList == ([] : List UInt8)) = false := beq_eq_false_iff_ne.mpr c21
         have c21b1 : (t141.toList != ([] : List UInt8)) = true := bne_iff_ne.mpr c21
         by_cases c23 : (t141.size : Int) > 4
         ·rw [if_pos c23] at H
          have c23b0 : decide (4 < (t141.size : Int)) = true := decide_eq_true c23
          have c23b1 : decide (4 < t141.size) = true := decide_eq_true (by omega)
          clear c23
          obtain rfl := Option.some.inj H
          go_wp2_with (first | ((with_reducible refine gate_callee (f := 16) rfl ?_); refine goesL_ (some 35) rfl rfl Tryd.func16 (by kernel_rfl) rfl #[.string x8_2, .int .i64 1] rfl (by (try simp only [List.map_toArray, List.map_cons, List.map_nil]); first | done | rfl | (simp only [List.length_drop, List.length_take]; rfl) | (rw [wrap_sum2 (by assumption)]; rfl)) ?_; (with_reducible refine (label_First.calls x8_2 1 t141 _ A20.out).mono ?_); rintro e w24 ⟨rfl, hb⟩; refine ⟨_, rfl, ?_⟩; have n0_ := Aside0.mk (below_step (by repeat (first | (with_reducible first | exact HB.out | apply below_alloc | apply pw_below_drewN | apply below_drew1) | exact HB.out)) hb); clear HB; have HB := n0_; clear n0_; (try clear hb); (try clear hb2); (try clear hk); (try clear hi)))
          go_ret
          exact ⟨by first | rfl | (simp [errW_none, errW_some] <;> rfl) | (simp only [← hji11]; first | rfl | (simp [errW_none, errW_some] <;> rfl)) | (simp [*, errW_none, errW_some] <;> rfl), by repeat (first | (with_reducible first | exact HB.out | apply below_alloc | apply pw_below_drewN | apply below_drew1) | exact HB.out)⟩
         ·rw [if_neg c23] at H
          have c23b0 : decide (4 < (t141.size : Int)) = false := decide_eq_false c23
          have c23b1 : decide (4 < t141.size) = false := decide_eq_false (by omega)
          clear c23
          replace H := Option.bind_eq_some_iff.mp H
          obtain ⟨t142, A250, H⟩ := H
          replace H : (if t142 = 1 then (if 0 ≤ (t141.size : Int) then (if (t141.size : Int) ≤ (x8_2.size : Int) then (rootcellarlaw1_LabelFirst.l0 k2 a0 (x8_2.extract t141.size x8_2.size) (wrap64 (x9_2 + 1))) else (none)) else (none)) else (some false)) = some r := H
          have A25 := Aside0.mk A250
          clear A250
          by_cases c26 : t142 = 1
          ·rw [if_pos c26] at H
           have c26b0 : (t142 == 1) = true := beq_iff_eq.mpr c26
           have c26b1 : (t142 != 1) = false := bne_eq_false_iff_eq.mpr c26
           clear c26
           by_cases c27 : 0 ≤ (t141.size : Int)
           ·rw [if_pos c27] at H
            have c27b0 := eq_true c27
            have c27b1 : decide (0 ≤ (t141.size : Int)) = true := decide_eq_true c27
            clear c27
            by_cases c28 : (t141.size : Int) ≤ (x8_2.size : Int)
            ·rw [if_pos c28] at H
             have c28b0 := eq_true c28
             have c28b1 : decide ((t141.size : Int) ≤ (x8_2.size : Int)) = true := decide_eq_true c28
             clear c28
             have H' := Aside0.mk H
             clear H
             go_wp2_with (first | ((with_reducible refine gate_callee (f := 16) rfl ?_); refine goesL_ (some 35) rfl rfl Tryd.func16 (by kernel_rfl) rfl #[.string x8_2, .int .i64 1] rfl (by (try simp only [List.map_toArray, List.map_cons, List.map_nil]); first | done | rfl | (simp only [List.length_drop, List.length_take]; rfl) | (rw [wrap_sum2 (by assumption)]; rfl)) ?_; (with_reducible refine (label_First.calls x8_2 1 t141 _ A20.out).mono ?_); rintro e w29 ⟨rfl, hb⟩; refine ⟨_, rfl, ?_⟩; have n0_ := Aside0.mk (below_step (by repeat (first | (with_reducible first | exact HB.out | apply below_alloc | apply pw_below_drewN | apply below_drew1) | exact HB.out)) hb); clear HB; have HB := n0_; clear n0_; (try clear hb); (try clear hb2); (try clear hk); (try clear hi)) | (go_at_call 14; (with_reducible refine (label_Count.calls t141 t142 _ A25.out).mono ?_); rintro e w30 ⟨rfl, hb⟩; have n0_ := Aside0.mk (below_step (by repeat (first | (with_reducible first | exact HB.out | apply below_alloc | apply pw_below_drewN | apply below_drew1) | exact HB.out)) hb); clear HB; have HB := n0_; clear n0_; (try clear hb); (try clear hb2); (try clear hk); (try clear hi)))
             go_roundg k2
             case measure => have := HJ4.out; have := HK2.out; omega
             case rel => exact ⟨(x8_2.extract t141.size x8_2.size), (wrap64 (x9_2 + 1)), (by first | rfl | (simp; done) | (simp [*]; done)), (by first | rfl | (simp; done) | (simp [*]; done)), H', ⟨by have := HJ4.out; have := HK2.out; omega⟩, ⟨by repeat (first | (with_reducible first | exact HB.out | apply below_alloc | apply pw_below_drewN | apply below_drew1) | exact HB.out)⟩⟩
            ·rw [if_neg c28] at H
             exact absurd H (by simp)
           ·rw [if_neg c27] at H
            exact absurd H (by simp)
          ·rw [if_neg c26] at H
           have c26b0 : (t142 == 1) = false := beq_eq_false_iff_ne.mpr c26
           have c26b1 : (t142 != 1) = true := bne_iff_ne.mpr c26
           obtain rfl := Option.some.inj H
           go_wp2_with (first | ((with_reducible refine gate_callee (f := 16) rfl ?_); refine goesL_ (some 35) rfl rfl Tryd.func16 (by kernel_rfl) rfl #[.string x8_2, .int .i64 1] rfl (by (try simp only [List.map_toArray, List.map_cons, List.map_nil]); first | done | rfl | (simp only [List.length_drop, List.length_take]; rfl) | (rw [wrap_sum2 (by assumption)]; rfl)) ?_; (with_reducible refine (label_First.calls x8_2 1 t141 _ A20.out).mono ?_); rintro e w31 ⟨rfl, hb⟩; refine ⟨_, rfl, ?_⟩; have n0_ := Aside0.mk (below_step (by repeat (first | (with_reducible first | exact HB.out | apply below_alloc | apply pw_below_drewN | apply below_drew1) | exact HB.out)) hb); clear HB; have HB := n0_; clear n0_; (try clear hb); (try clear hb2); (try clear hk); (try clear hi)) | (go_at_call 14; (with_reducible refine (label_Count.calls t141 t142 _ A25.out).mono ?_); rintro e w32 ⟨rfl, hb⟩; have n0_ := Aside0.mk (below_step (by repeat (first | (with_reducible first | exact HB.out | apply below_alloc | apply pw_below_drewN | apply below_drew1) | exact HB.out)) hb); clear HB; have HB := n0_; clear n0_; (try clear hb); (try clear hb2); (try clear hk); (try clear hi)))
           go_ret
           exact ⟨by first | rfl | (simp [errW_none, errW_some] <;> rfl) | (simp only [← hji11]; first | rfl | (simp [errW_none, errW_some] <;> rfl)) | (simp [*, errW_none, errW_some] <;> rfl), by repeat (first | (with_reducible first | exact HB.out | apply below_alloc | apply pw_below_drewN | apply below_drew1) | exact HB.out)⟩
    ·rw [if_neg c13] at H
     have c13b0 : (t138.toList == t139.toList) = false := beq_eq_false_iff_ne.mpr c13
     have c13b1 : (t138.toList != t139.toList) = true := bne_iff_ne.mpr c13
     obtain rfl := Option.some.inj H
     go_wp2_with (first | ((with_reducible refine gate_callee (f := 16) rfl ?_); refine goesL_ (some 22) rfl rfl Tryd.func16 (by kernel_rfl) rfl #[.string a0, .int .i64 a1] rfl (by (try simp only [List.map_toArray, List.map_cons, List.map_nil]); first | done | rfl | (simp only [List.length_drop, List.length_take]; rfl) | (rw [wrap_sum2 (by assumption)]; rfl)) ?_; (with_reducible refine (label_First.calls a0 a1 t137 _ A9.out).mono ?_); rintro e w33 ⟨rfl, hb⟩; refine ⟨_, rfl, ?_⟩; have n0_ := Aside0.mk (below_step (by repeat (first | (with_reducible first | exact HB.out | apply below_alloc | apply pw_below_drewN | apply below_drew1) | exact HB.out)) hb); clear HB; have HB := n0_; clear n0_; (try clear hb); (try clear hb2); (try clear hk); (try clear hi)) | ((with_reducible refine gate_callee (f := 16) rfl ?_); refine goesL_ (some 24) rfl rfl Tryd.func16 (by kernel_rfl) rfl #[.string t137, .int .i64 a2] rfl (by (try simp only [List.map_toArray, List.map_cons, List.map_nil]); first | done | rfl | (simp only [List.length_drop, List.length_take]; rfl) | (rw [wrap_sum2 (by assumption)]; rfl)) ?_; (with_reducible refine (label_First.calls t137 a2 t138 _ A10.out).mono ?_); rintro e w34 ⟨rfl, hb⟩; refine ⟨_, rfl, ?_⟩; have n0_ := Aside0.mk (below_step (by repeat (first | (with_reducible first | exact HB.out | apply below_alloc | apply pw_below_drewN | apply below_drew1) | exact HB.out)) hb); clear HB; have HB := n0_; clear n0_; (try clear hb); (try clear hb2); (try clear hk); (try clear hi)) | ((with_reducible refine gate_callee (f := 16) rfl ?_); refine goesL_ (some 29) rfl rfl Tryd.func16 (by kernel_rfl) rfl #[.string a0, .int .i64 ji11] rfl (by (try simp only [List.map_toArray, List.map_cons, List.map_nil]); first | done | (simp only [hji11]; rfl) | rfl | (simp only [List.length_drop, List.length_take]; rfl) | (rw [wrap_sum2 (by assumption)]; rfl)) ?_; (with_reducible refine (label_First.calls a0 ji11 t139 _ A12.out).mono ?_); rintro e w35 ⟨rfl, hb⟩; refine ⟨_, rfl, ?_⟩; have n0_ := Aside0.mk (below_step (by repeat (first | (with_reducible first | exact HB.out | apply below_alloc | apply pw_below_drewN | apply below_drew1) | exact HB.out)) hb); clear HB; have HB := n0_; clear n0_; (try clear hb); (try clear hb2); (try clear hk); (try clear hi)))
     go_ret
     exact ⟨by first | rfl | (simp [errW_none, errW_some] <;> rfl) | (simp only [← hji11]; first | rfl | (simp [errW_none, errW_some] <;> rfl)) | (simp [*, errW_none, errW_some] <;> rfl), by repeat (first | (with_reducible first | exact HB.out | apply below_alloc | apply pw_below_drewN | apply below_drew1) | exact HB.out)⟩


end Go.Proofs.YtapkghkcaflkmaaDoor.Fn
end
section
-- Written by printx.py, a program of this session over the kit's print: each Go function as a plain Lean function, and that the Go code computes it.

namespace Go.Proofs.YtapkghkcaflkmaaDoor.Fn
open Go.RowKit Go.Proofs.YtapkghkcaflkmaaDoorW.PrintWords Go.Proofs.YtapkghkcaflkmaaDoorW.PrintLast Go.Proofs.YtapkghkcaflkmaaDoorW.PrintMore Go.Proofs.YtapkghkcaflkmaaDoor.Lf
attribute [local go_sem] max2_int min2_int max_two min_two max_three min_three max_four min_four   -- for this text's walks alone
set_option linter.unusedVariables false
set_option linter.unusedSimpArgs false

/-! ### rootcellarref1_Fold: function 21 -/
def rootcellarref1_Fold.l0 : Nat → ByteArray → List Int → Int → Option (ByteArray)
 | 0, _, _, _ => none
 | k + 1, x0, x3, x4 => if x4 < (x0.size : Int) then (if 0 ≤ x4 then (if (bt x0 x4) ≥ 65 then (if (bt x0 x4) ≤ 90 then (if x3.length < 140737488355328 then (rootcellarref1_Fold.l0 k x0 (x3 ++ [((bt x0 x4) + 32) % 256]) (wrap64 (x4 + 1))) else (none)) else (if x3.length < 140737488355328 then (rootcellarref1_Fold.l0 k x0 (x3 ++ [bt x0 x4]) (wrap64 (x4 + 1))) else (none))) else (if x3.length < 140737488355328 then (rootcellarref1_Fold.l0 k x0 (x3 ++ [bt x0 x4]) (wrap64 (x4 + 1))) else (none))) else (none)) else (some (strOfNums x3))
def rootcellarref1_Fold.f (k : Nat) (a0 : ByteArray) : Option (ByteArray) := rootcellarref1_Fold.l0 k a0 ([] : List Int) 0
theorem rootcellarref1_Fold.mono_l : ∀ k, (∀ y0 y1 y2, LeO (rootcellarref1_Fold.l0 k y0 y1 y2) (rootcellarref1_Fold.l0 (k + 1) y0 y1 y2))
 | 0 => fun _ _ _ r h => by simp [rootcellarref1_Fold.l0] at h
 | k + 1 => by
  have ih0 := rootcellarref1_Fold.mono_l k
  ·intro y0 y1 y2
   unfold rootcellarref1_Fold.l0
   repeat' first
   | (with_reducible exact ih0 _ _ _)
   | (with_reducible exact LeO.refl _)
   | (with_reducible exact LeO.none _)
   | (with_reducible refine LeO.ite ?_ ?_)
   | (with_reducible refine LeO.bind ?_ (fun _ => ?_))
   | exact ih0 _ _ _
   | exact LeO.none _
   | refine LeO.ite ?_ ?_
   | refine LeO.bind ?_ (fun _ => ?_)
theorem rootcellarref1_Fold.mono : ∀ a0 k, LeO (rootcellarref1_Fold.f k a0) (rootcellarref1_Fold.f (k + 1) a0) := by
 intro a0 k
 have ih0 := rootcellarref1_Fold.mono_l k
 unfold rootcellarref1_Fold.f
 repeat' first
   | (with_reducible exact ih0 _ _ _)
   | (with_reducible exact LeO.refl _)
   | (with_reducible exact LeO.none _)
   | (with_reducible refine LeO.ite ?_ ?_)
   | (with_reducible refine LeO.bind ?_ (fun _ => ?_))
   | exact ih0 _ _ _
   | exact LeO.none _
   | refine LeO.ite ?_ ?_
   | refine LeO.bind ?_ (fun _ => ?_)
set_option maxHeartbeats 8000000 in
set_option maxRecDepth 100000 in
theorem rootcellarref1_Fold.calls (k : Nat) (a0 : ByteArray) (r : ByteArray) (w : World) (h : rootcellarref1_Fold.f k a0 = some r) :
  Calls Tryd.prog 21 #[.string a0] w fun e w' => e = .returned (.string r) ∧ Below w.heap.size w w' := by
 have HB := Aside0.mk (Below.refl w.heap.size w)
 have H : (rootcellarref1_Fold.l0 k a0 ([] : List Int) 0) = some r := h
 clear h
 have H' := Aside0.mk H
 clear H
 go_enter Tryd.func21, Tryd.ntmps21
 go_wp2
 go_loopg [3, 4] k (fun kq v3 v4 w' => ∃ (x3_1 : List Int) (x4_1 : Int), v4 = .int .i64 x4_1 ∧ Aside0 (rootcellarref1_Fold.l0 kq a0 x3_1 x4_1 = some r) ∧ Aside0 (kq ≤ k) ∧ Aside0 (Kd.R (Kd.int .u8) 5 w' w.heap.size (fun _ => True) v3 x3_1) ∧ Aside0 (Below w.heap.size w w'))
 case atStart => exact ⟨(([] : List Int)), (0), (by first | rfl | (simp; done) | (simp [*]; done)), H', ⟨Nat.le_refl _⟩, ⟨by first | exact Kd.R_nil _ _ _ _ _ | exact Kd.N_nil _ _ _ _ _ | exact Kd.V_nil _ _ _ _ _ | exact Kd.Q_nil _ _ _ _ _ | exact Kd.S_nil _ _ _ _ _⟩, ⟨by repeat (first | (with_reducible first | exact HB.out | apply below_alloc | apply pw_below_drewN | apply below_drew1) | exact HB.out)⟩⟩
 case round =>
  clear H'
  obtain ⟨x3_1, x4_1, rfl, HA, HK1, HO_3, HB⟩ := hrel
  cases gk with
  | zero => exact absurd HA.out (by simp [rootcellarref1_Fold.l0])
  | succ k1 =>
   have H := HA.out
   clear HA
   simp only [rootcellarref1_Fold.l0] at H
   by_cases c2 : x4_1 < (a0.size : Int)
   ·rw [if_pos c2] at H
    have c2b0 : decide (x4_1 < (a0.size : Int)) = true := decide_eq_true c2
    clear c2
    by_cases c3 : 0 ≤ x4_1
    ·rw [if_pos c3] at H
     have c3b0 : decide (0 ≤ x4_1) = true := decide_eq_true c3
     clear c3
     by_cases c5 : (bt a0 x4_1) ≥ 65
     ·rw [if_pos c5] at H
      have c5b0 : decide (65 ≤ (bt a0 x4_1)) = true := decide_eq_true c5
      clear c5
      by_cases c6 : (bt a0 x4_1) ≤ 90
      ·rw [if_pos c6] at H
       have c6b0 : decide ((bt a0 x4_1) ≤ 90) = true := decide_eq_true c6
       clear c6
       by_cases c7 : x3_1.length < 140737488355328
       ·rw [if_pos c7] at H
        have LMc7 := Aside0.mk c7
        clear c7
        obtain ⟨y145, hy145⟩ : ∃ y_ : List Int, y_ = (x3_1 ++ [((bt a0 x4_1) + 32) % 256]) := ⟨_, rfl⟩
        replace H : (rootcellarref1_Fold.l0 k1 a0 y145 (wrap64 (x4_1 + 1))) = some r := by first | (rw [hy145]; with_reducible exact H) | (have H2_ := (Option.bind_some _ _).symm.trans H; rw [hy145]; with_reducible exact H2_) | (have H2_ := (Option.bind_some _ _).symm.trans H; with_reducible exact H2_) | with_reducible exact H | (rw [hy145]; exact H) | exact H
        have Ny145 := Aside0.mk hy145
        clear hy145
        have H' := Aside0.mk H
        clear H
        have p4 : 0 ≤ (x4_1 : Int) := of_decide_eq_true (by first | (with_reducible assumption) | assumption)
        have q4 : x4_1 < (a0.size : Int) := of_decide_eq_true (by first | (with_reducible assumption) | assumption)
        have hx4 := bt_at a0 x4_1
        replace p4 := eq_true p4
        replace q4 := eq_true q4
        go_wp2_with (first | ((with_reducible refine gate_builtin (b := .append) (xs := #[.tmp 23, .tmp 25]) rfl ?_); at_builtin; refine Kd.R_append (Kd.int .u8) (w0 := w) w.heap.size rfl (.tmp 23) (.tmp 25) 35 5 (.int .u8 0) 1 rfl Tryd.underlying35 info5 rfl (by decide) (by omega) u3 x3_1 (((bt a0 x4_1) + 32) % 256) [.int .u8 (((bt a0 x4_1) + 32) % 256)] (fun _ => True) (fun _ => False) rfl rfl ?aP (fun _ hk => hk.elim) ?aF ?aO ?aB ?aS ?aL ?_; (case aP => exact rfl); (case aB => exact (by repeat (first | (with_reducible first | exact HB.out | apply below_alloc | apply pw_below_drewN | apply below_drew1) | exact HB.out))); (case aF => exact (fun _ _ => trivial)); (case aO => exact (by (with_reducible repeat (first | apply Kd.R_alloc | apply Kd.R_drewN | apply Kd.R_drew)); exact HO_3.out)); (case aS => exact (below_size (by repeat (first | (with_reducible first | exact HB.out | apply below_alloc | apply pw_below_drewN | apply below_drew1) | exact HB.out)))); (case aL => have := LMc7.out; omega); intro v146 w8 ho hb hg hat; rw [← Ny145.out] at ho; have n0_ := Aside0.mk (hb); have n1_ := Aside0.mk (ho); clear HB; clear HO_3; have HB := n0_; have HO147 := n1_; clear n0_ n1_; clear ho hb hg hat))
        go_roundg k1
        case measure => have := HK1.out; omega
        case rel => exact ⟨(y145), (wrap64 (x4_1 + 1)), (by first | rfl | (simp; done) | (simp [*]; done)), H', ⟨by have := HK1.out; omega⟩, ⟨by (with_reducible repeat (first | apply Kd.R_alloc | apply Kd.R_drewN | apply Kd.R_drew)); exact HO147.out⟩, ⟨by repeat (first | (with_reducible first | exact HB.out | apply below_alloc | apply pw_below_drewN | apply below_drew1) | exact HB.out)⟩⟩
       ·rw [if_neg c7] at H
        exact absurd H (by simp)
      ·rw [if_neg c6] at H
       have c6b0 : decide ((bt a0 x4_1) ≤ 90) = false := decide_eq_false c6
       clear c6
       by_cases c9 : x3_1.length < 140737488355328
       ·rw [if_pos c9] at H
        have LMc9 := Aside0.mk c9
        clear c9
        obtain ⟨y148, hy148⟩ : ∃ y_ : List Int, y_ = (x3_1 ++ [bt a0 x4_1]) := ⟨_, rfl⟩
        replace H : (rootcellarref1_Fold.l0 k1 a0 y148 (wrap64 (x4_1 + 1))) = some r := by first | (rw [hy148]; with_reducible exact H) | (have H2_ := (Option.bind_some _ _).symm.trans H; rw [hy148]; with_reducible exact H2_) | (have H2_ := (Option.bind_some _ _).symm.trans H; with_reducible exact H2_) | with_reducible exact H | (rw [hy148]; exact H) | exact H
        have Ny148 := Aside0.mk hy148
        clear hy148
        have H' := Aside0.mk H
        clear H
        have p4 : 0 ≤ (x4_1 : Int) := of_decide_eq_true (by first | (with_reducible assumption) | assumption)
        have q4 : x4_1 < (a0.size : Int) := of_decide_eq_true (by first | (with_reducible assumption) | assumption)
        have hx4 := bt_at a0 x4_1
        replace p4 := eq_true p4
        replace q4 := eq_true q4
        go_wp2_with (first | ((with_reducible refine gate_builtin (b := .append) (xs := #[.tmp 23, .tmp 25]) rfl ?_); at_builtin; refine Kd.R_append (Kd.int .u8) (w0 := w) w.heap.size rfl (.tmp 23) (.tmp 25) 35 5 (.int .u8 0) 1 rfl Tryd.underlying35 info5 rfl (by decide) (by omega) u3 x3_1 (bt a0 x4_1) [.int .u8 (bt a0 x4_1)] (fun _ => True) (fun _ => False) rfl rfl ?aP (fun _ hk => hk.elim) ?aF ?aO ?aB ?aS ?aL ?_; (case aP => exact rfl); (case aB => exact (by repeat (first | (with_reducible first | exact HB.out | apply below_alloc | apply pw_below_drewN | apply below_drew1) | exact HB.out))); (case aF => exact (fun _ _ => trivial)); (case aO => exact (by (with_reducible repeat (first | apply Kd.R_alloc | apply Kd.R_drewN | apply Kd.R_drew)); exact HO_3.out)); (case aS => exact (below_size (by repeat (first | (with_reducible first | exact HB.out | apply below_alloc | apply pw_below_drewN | apply below_drew1) | exact HB.out)))); (case aL => have := LMc9.out; omega); intro v149 w10 ho hb hg hat; rw [← Ny148.out] at ho; have n0_ := Aside0.mk (hb); have n1_ := Aside0.mk (ho); clear HB; clear HO_3; have HB := n0_; have HO150 := n1_; clear n0_ n1_; clear ho hb hg hat))
        go_roundg k1
        case measure => have := HK1.out; omega
        case rel => exact ⟨(y148), (wrap64 (x4_1 + 1)), (by first | rfl | (simp; done) | (simp [*]; done)), H', ⟨by have := HK1.out; omega⟩, ⟨by (with_reducible repeat (first | apply Kd.R_alloc | apply Kd.R_drewN | apply Kd.R_drew)); exact HO150.out⟩, ⟨by repeat (first | (with_reducible first | exact HB.out | apply below_alloc | apply pw_below_drewN | apply below_drew1) | exact HB.out)⟩⟩
       ·rw [if_neg c9] at H
        exact absurd H (by simp)
     ·rw [if_neg c5] at H
      have c5b0 : decide (65 ≤ (bt a0 x4_1)) = false := decide_eq_false c5
      clear c5
      by_cases c11 : x3_1.length < 140737488355328
      ·rw [if_pos c11] at H
       have LMc11 := Aside0.mk c11
       clear c11
       obtain ⟨y151, hy151⟩ : ∃ y_ : List Int, y_ = (x3_1 ++ [bt a0 x4_1]) := ⟨_, rfl⟩
       replace H : (rootcellarref1_Fold.l0 k1 a0 y151 (wrap64 (x4_1 + 1))) = some r := by first | (rw [hy151]; with_reducible exact H) | (have H2_ := (Option.bind_some _ _).symm.trans H; rw [hy151]; with_reducible exact H2_) | (have H2_ := (Option.bind_some _ _).symm.trans H; with_reducible exact H2_) | with_reducible exact H | (rw [hy151]; exact H) | exact H
       have Ny151 := Aside0.mk hy151
       clear hy151
       have H' := Aside0.mk H
       clear H
       have p4 : 0 ≤ (x4_1 : Int) := of_decide_eq_true (by first | (with_reducible assumption) | assumption)
       have q4 : x4_1 < (a0.size : Int) := of_decide_eq_true (by first | (with_reducible assumption) | assumption)
       have hx4 := bt_at a0 x4_1
       replace p4 := eq_true p4
       replace q4 := eq_true q4
       go_wp2_with (first | ((with_reducible refine gate_builtin (b := .append) (xs := #[.tmp 23, .tmp 25]) rfl ?_); at_builtin; refine Kd.R_append (Kd.int .u8) (w0 := w) w.heap.size rfl (.tmp 23) (.tmp 25) 35 5 (.int .u8 0) 1 rfl Tryd.underlying35 info5 rfl (by decide) (by omega) u3 x3_1 (bt a0 x4_1) [.int .u8 (bt a0 x4_1)] (fun _ => True) (fun _ => False) rfl rfl ?aP (fun _ hk => hk.elim) ?aF ?aO ?aB ?aS ?aL ?_; (case aP => exact rfl); (case aB => exact (by repeat (first | (with_reducible first | exact HB.out | apply below_alloc | apply pw_below_drewN | apply below_drew1) | exact HB.out))); (case aF => exact (fun _ _ => trivial)); (case aO => exact (by (with_reducible repeat (first | apply Kd.R_alloc | apply Kd.R_drewN | apply Kd.R_drew)); exact HO_3.out)); (case aS => exact (below_size (by repeat (first | (with_reducible first | exact HB.out | apply below_alloc | apply pw_below_drewN | apply below_drew1) | exact HB.out)))); (case aL => have := LMc11.out; omega); intro v152 w12 ho hb hg hat; rw [← Ny151.out] at ho; have n0_ := Aside0.mk (hb); have n1_ := Aside0.mk (ho); clear HB; clear HO_3; have HB := n0_; have HO153 := n1_; clear n0_ n1_; clear ho hb hg hat))
       go_roundg k1
       case measure => have := HK1.out; omega
       case rel => exact ⟨(y151), (wrap64 (x4_1 + 1)), (by first | rfl | (simp; done) | (simp [*]; done)), H', ⟨by have := HK1.out; omega⟩, ⟨by (with_reducible repeat (first | apply Kd.R_alloc | apply Kd.R_drewN | apply Kd.R_drew)); exact HO153.out⟩, ⟨by repeat (first | (with_reducible first | exact HB.out | apply below_alloc | apply pw_below_drewN | apply below_drew1) | exact HB.out)⟩⟩
      ·rw [if_neg c11] at H
       exact absurd H (by simp)
    ·rw [if_neg c3] at H
     exact absurd H (by simp)
   ·rw [if_neg c2] at H
    have c2b0 : decide (x4_1 < (a0.size : Int)) = false := decide_eq_false c2
    clear c2
    obtain rfl := Option.some.inj H
    have hcv13 := own_string (P := Tryd.prog) Tryd.underlying35 Tryd.underlying5 Tryd.underlying9 (Kd.own_of_R HO_3.out)
    go_wp2
    go_ret
    exact ⟨by first | rfl | (simp [errW_none, errW_some] <;> rfl) | (simp [*, errW_none, errW_some] <;> rfl), by repeat (first | (with_reducible first | exact HB.out | apply below_alloc | apply pw_below_drewN | apply below_drew1) | exact HB.out)⟩

end Go.Proofs.YtapkghkcaflkmaaDoor.Fn
end
section
-- Written by printx.py, a program of this session over the kit's print: each Go function as a plain Lean function, and that the Go code computes it.




namespace Go.Proofs.YtapkghkcaflkmaaDoor.Fn
open Go.RowKit Go.Proofs.YtapkghkcaflkmaaDoorW.PrintWords Go.Proofs.YtapkghkcaflkmaaDoorW.PrintLast Go.Proofs.YtapkghkcaflkmaaDoorW.PrintMore Go.Proofs.YtapkghkcaflkmaaDoor.Lf
attribute [local go_sem] max2_int min2_int max_two min_two max_three min_three max_four min_four   -- for this text's walks alone
set_option linter.unusedVariables false
set_option linter.unusedSimpArgs false

/-! ### rootcellarlaw1_LabelNames: function 6 -/
def rootcellarlaw1_LabelNames.j0 : Nat → ByteArray → Bool → Bool → Option (Bool)
 | 0, _, _, _ => none
 | k + 1, x0, x3, x11 => if x11 = true then (some x3) else ((label_Right.f x0).bind fun t155 => ((rootcellarref1_Right.f k x0).bind fun t156 => (if (t155 == t156) = true then ((label_Fold.f x0).bind fun t157 => ((rootcellarref1_Fold.f k x0).bind fun t158 => (some (t157.toList == t158.toList)))) else (some false))))
def rootcellarlaw1_LabelNames.f (k : Nat) (a0 : ByteArray) : Option (Bool) := (rootcellarlaw1_shown.f).bind fun t154 => (if t154 = true then (rootcellarlaw1_LabelNames.j0 k a0 t154 (decide ((a0.size : Int) > 1000))) else (rootcellarlaw1_LabelNames.j0 k a0 t154 true))
theorem rootcellarlaw1_LabelNames.mono_l : ∀ k, (∀ y0 y1 y2, LeO (rootcellarlaw1_LabelNames.j0 k y0 y1 y2) (rootcellarlaw1_LabelNames.j0 (k + 1) y0 y1 y2))
 | 0 => fun _ _ _ r h => by simp [rootcellarlaw1_LabelNames.j0] at h
 | k + 1 => by
  have ih0 := rootcellarlaw1_LabelNames.mono_l k
  ·intro y0 y1 y2
   unfold rootcellarlaw1_LabelNames.j0
   repeat' first
   | (with_reducible exact ih0 _ _ _)
   | (with_reducible exact rootcellarref1_Fold.mono _ _)
   | (with_reducible exact rootcellarref1_Right.mono _ _)
   | (with_reducible exact LeO.refl _)
   | (with_reducible exact LeO.none _)
   | (with_reducible refine LeO.ite ?_ ?_)
   | (with_reducible refine LeO.bind ?_ (fun _ => ?_))
   | exact ih0 _ _ _
   | exact rootcellarref1_Fold.mono _ _
   | exact rootcellarref1_Right.mono _ _
   | exact LeO.none _
   | refine LeO.ite ?_ ?_
   | refine LeO.bind ?_ (fun _ => ?_)
theorem rootcellarlaw1_LabelNames.mono : ∀ a0 k, LeO (rootcellarlaw1_LabelNames.f k a0) (rootcellarlaw1_LabelNames.f (k + 1) a0) := by
 intro a0 k
 have ih0 := rootcellarlaw1_LabelNames.mono_l k
 unfold rootcellarlaw1_LabelNames.f
 repeat' first
   | (with_reducible exact ih0 _ _ _)
   | (with_reducible exact rootcellarref1_Fold.mono _ _)
   | (with_reducible exact rootcellarref1_Right.mono _ _)
   | (with_reducible exact LeO.refl _)
   | (with_reducible exact LeO.none _)
   | (with_reducible refine LeO.ite ?_ ?_)
   | (with_reducible refine LeO.bind ?_ (fun _ => ?_))
   | exact ih0 _ _ _
   | exact rootcellarref1_Fold.mono _ _
   | exact rootcellarref1_Right.mono _ _
   | exact LeO.none _
   | refine LeO.ite ?_ ?_
   | refine LeO.bind ?_ (fun _ => ?_)
set_option maxHeartbeats 8000000 in
set_option maxRecDepth 100000 in
theorem rootcellarlaw1_LabelNames.calls (k : Nat) (a0 : ByteArray) (r : Bool) (w : World) (h : rootcellarlaw1_LabelNames.f k a0 = some r) (HT : Tabs w) :
  Calls Tryd.prog 6 #[.string a0] w fun e w' => e = .returned (.bool r) ∧ Below w.heap.size w w' := by
 have HB := Aside0.mk (Below.refl w.heap.size w)
 have H : ((rootcellarlaw1_shown.f).bind fun t154 => (if t154 = true then (rootcellarlaw1_LabelNames.j0 k a0 t154 (decide ((a0.size : Int) > 1000))) else (rootcellarlaw1_LabelNames.j0 k a0 t154 true))) = some r := h
 clear h
 replace H := Option.bind_eq_some_iff.mp H
 obtain ⟨t154, A20, H⟩ := H
 replace H : (if t154 = true then (rootcellarlaw1_LabelNames.j0 k a0 t154 (decide ((a0.size : Int) > 1000))) else (rootcellarlaw1_LabelNames.j0 k a0 t154 true)) = some r := H
 have A2 := Aside0.mk A20
 clear A20
 have HC3 := Aside0.mk H
 clear H
 go_enter Tryd.func6, Tryd.ntmps6
 go_upto_region 2 with (first | ((with_reducible refine gate_callee (f := 11) rfl ?_); refine goesL_ (some 4) rfl rfl Tryd.func11 (by kernel_rfl) rfl #[] rfl (by (try simp only [List.map_toArray, List.map_cons, List.map_nil]); first | done | rfl | (simp only [List.length_drop, List.length_take]; rfl) | (rw [wrap_sum2 (by assumption)]; rfl)) ?_; (with_reducible refine (rootcellarlaw1_shown.calls  t154 _ A2.out (HT.below (by repeat (first | (with_reducible first | exact HB.out | apply below_alloc | apply pw_below_drewN | apply below_drew1) | exact HB.out)))).mono ?_); rintro e w4 ⟨rfl, hb⟩; refine ⟨_, rfl, ?_⟩; have n0_ := Aside0.mk (below_step (by repeat (first | (with_reducible first | exact HB.out | apply below_alloc | apply pw_below_drewN | apply below_drew1) | exact HB.out)) hb); clear HB; have HB := n0_; clear n0_; (try clear hb); (try clear hb2); (try clear hk); (try clear hi)))
 (try simp only [Act.put, List.setIfInBounds_toArray, List.set_cons_zero, List.set_cons_succ])
 go_cut [11] (fun v11 wc => ∃ (kq : Nat) (x11_2 : Bool), v11 = .bool x11_2 ∧ Aside0 (rootcellarlaw1_LabelNames.j0 kq a0 t154 x11_2 = some r) ∧ Aside0 (kq ≤ k) ∧ Aside0 (Below w.heap.size w wc))
 case first =>
  have H := HC3.out
  clear HC3
  by_cases c5 : t154 = true
  ·subst c5
   have H1 : (rootcellarlaw1_LabelNames.j0 k a0 true (decide ((a0.size : Int) > 1000))) = some r := by rw [if_pos rfl] at H; exact H
   clear H
   have H := H1
   clear H1
   have H' := Aside0.mk H
   clear H
   go_wp2
   go_meet
   case rel => exact ⟨_, (decide ((a0.size : Int) > 1000)), (by first | rfl | (simp; done) | (simp [*]; done)), H', ⟨by first | omega | exact Nat.le_refl _⟩, ⟨by repeat (first | (with_reducible first | exact HB.out | apply below_alloc | apply pw_below_drewN | apply below_drew1) | exact HB.out)⟩⟩
  ·replace c5 := Bool.eq_false_iff.mpr c5
   subst c5
   have H1 : (rootcellarlaw1_LabelNames.j0 k a0 false true) = some r := by rw [if_neg (show ¬ (false = true) by decide)] at H; exact H
   clear H
   have H := H1
   clear H1
   have H' := Aside0.mk H
   clear H
   go_wp2
   go_meet
   case rel => exact ⟨_, (true), (by first | rfl | (simp; done) | (simp [*]; done)), H', ⟨by first | omega | exact Nat.le_refl _⟩, ⟨by repeat (first | (with_reducible first | exact HB.out | apply below_alloc | apply pw_below_drewN | apply below_drew1) | exact HB.out)⟩⟩
 case rest =>
  clear HC3
  try clear c1
  try clear p2
  try clear c5
  obtain ⟨kq, x11_2, rfl, HA, HJ2, HB⟩ := hcut
  cases kq with
  | zero => exact absurd HA.out (by simp [rootcellarlaw1_LabelNames.j0])
  | succ kj2 =>
   have H := HA.out
   clear HA
   simp only [rootcellarlaw1_LabelNames.j0] at H
   by_cases c6 : x11_2 = true
   ·subst c6
    have H1 : (some t154) = some r := by rw [if_pos rfl] at H; exact H
    clear H
    have H := H1
    clear H1
    obtain rfl := Option.some.inj H
    go_wp2
    go_ret
    exact ⟨by first | rfl | (simp [errW_none, errW_some] <;> rfl) | (simp [*, errW_none, errW_some] <;> rfl), by repeat (first | (with_reducible first | exact HB.out | apply below_alloc | apply pw_below_drewN | apply below_drew1) | exact HB.out)⟩
   ·replace c6 := Bool.eq_false_iff.mpr c6
    subst c6
    have H1 : ((label_Right.f a0).bind fun t155 => ((rootcellarref1_Right.f kj2 a0).bind fun t156 => (if (t155 == t156) = true then ((label_Fold.f a0).bind fun t157 => ((rootcellarref1_Fold.f kj2 a0).bind fun t158 => (some (t157.toList == t158.toList)))) else (some false)))) = some r := by rw [if_neg (show ¬ (false = true) by decide)] at H; exact H
    clear H
    have H := H1
    clear H1
    replace H := Option.bind_eq_some_iff.mp H
    obtain ⟨t155, A70, H⟩ := H
    replace H : ((rootcellarref1_Right.f kj2 a0).bind fun t156 => (if (t155 == t156) = true then ((label_Fold.f a0).bind fun t157 => ((rootcellarref1_Fold.f kj2 a0).bind fun t158 => (some (t157.toList == t158.toList)))) else (some false))) = some r := H
    have A7 := Aside0.mk A70
    clear A70
    replace H := Option.bind_eq_some_iff.mp H
    obtain ⟨t156, A80, H⟩ := H
    replace H : (if (t155 == t156) = true then ((label_Fold.f a0).bind fun t157 => ((rootcellarref1_Fold.f kj2 a0).bind fun t158 => (some (t157.toList == t158.toList)))) else (some false)) = some r := H
    have A8 := Aside0.mk A80
    clear A80
    by_cases c9 : (t155 == t156) = true
    ·rw [if_pos c9] at H
     have c9b0 : (t155 == t156) = true := c9
     (try (have c9b1 : decide (t155 = t156) = true := by simpa using c9))
     (try (have c9b2 : (t155 == t156) = true := by simpa using c9))
     clear c9
     replace H := Option.bind_eq_some_iff.mp H
     obtain ⟨t157, A100, H⟩ := H
     replace H : ((rootcellarref1_Fold.f kj2 a0).bind fun t158 => (some (t157.toList == t158.toList))) = some r := H
     have A10 := Aside0.mk A100
     clear A100
     replace H := Option.bind_eq_some_iff.mp H
     obtain ⟨t158, A110, H⟩ := H
     replace H : (some (t157.toList == t158.toList)) = some r := H
     have A11 := Aside0.mk A110
     clear A110
     obtain rfl := Option.some.inj H
     go_wp2_with (first | ((with_reducible refine gate_callee (f := 18) rfl ?_); refine goesL_ (some 14) rfl rfl Tryd.func18 (by kernel_rfl) rfl #[.string a0] rfl (by (try simp only [List.map_toArray, List.map_cons, List.map_nil]); first | done | rfl | (simp only [List.length_drop, List.length_take]; rfl) | (rw [wrap_sum2 (by assumption)]; rfl)) ?_; (with_reducible refine (label_Right.calls a0 t155 _ A7.out (HT.below (by repeat (first | (with_reducible first | exact HB.out | apply below_alloc | apply pw_below_drewN | apply below_drew1) | exact HB.out)))).mono ?_); rintro e w12 ⟨rfl, hb⟩; refine ⟨_, rfl, ?_⟩; have n0_ := Aside0.mk (below_step (by repeat (first | (with_reducible first | exact HB.out | apply below_alloc | apply pw_below_drewN | apply below_drew1) | exact HB.out)) hb); clear HB; have HB := n0_; clear n0_; (try clear hb); (try clear hb2); (try clear hk); (try clear hi)) | ((with_reducible refine gate_callee (f := 19) rfl ?_); refine goesL_ (some 16) rfl rfl Tryd.func19 (by kernel_rfl) rfl #[.string a0] rfl (by (try simp only [List.map_toArray, List.map_cons, List.map_nil]); first | done | rfl | (simp only [List.length_drop, List.length_take]; rfl) | (rw [wrap_sum2 (by assumption)]; rfl)) ?_; (with_reducible refine (rootcellarref1_Right.calls kj2 a0 t156 _ A8.out).mono ?_); rintro e w' ⟨rfl, ⟨nd, rfl⟩⟩; refine ⟨_, rfl, ?_⟩) | (go_at_call 20; (with_reducible refine (label_Fold.calls a0 t157 _ A10.out).mono ?_); rintro e w13 ⟨rfl, hb⟩; have n0_ := Aside0.mk (below_step (by repeat (first | (with_reducible first | exact HB.out | apply below_alloc | apply pw_below_drewN | apply below_drew1) | exact HB.out)) hb); clear HB; have HB := n0_; clear n0_; (try clear hb); (try clear hb2); (try clear hk); (try clear hi)) | (go_at_call 21; (with_reducible refine (rootcellarref1_Fold.calls kj2 a0 t158 _ A11.out).mono ?_); rintro e w14 ⟨rfl, hb⟩; have n0_ := Aside0.mk (below_step (by repeat (first | (with_reducible first | exact HB.out | apply below_alloc | apply pw_below_drewN | apply below_drew1) | exact HB.out)) hb); clear HB; have HB := n0_; clear n0_; (try clear hb); (try clear hb2); (try clear hk); (try clear hi)))
     go_ret
     exact ⟨by first | rfl | (simp [errW_none, errW_some] <;> rfl) | (simp [*, errW_none, errW_some] <;> rfl), by repeat (first | (with_reducible first | exact HB.out | apply below_alloc | apply pw_below_drewN | apply below_drew1) | exact HB.out)⟩
    ·rw [if_neg c9] at H
     have c9b0 : (t155 == t156) = false := by simpa using c9
     (try (have c9b1 : decide (t155 = t156) = false := by simpa using c9))
     (try (have c9b2 : (t155 == t156) = false := by simpa using c9))
     (try (have c9b3 : ¬ (t155 = t156) := by simpa using c9))
     clear c9
     obtain rfl := Option.some.inj H
     go_wp2_with (first | ((with_reducible refine gate_callee (f := 18) rfl ?_); refine goesL_ (some 14) rfl rfl Tryd.func18 (by kernel_rfl) rfl #[.string a0] rfl (by (try simp only [List.map_toArray, List.map_cons, List.map_nil]); first | done | rfl | (simp only [List.length_drop, List.length_take]; rfl) | (rw [wrap_sum2 (by assumption)]; rfl)) ?_; (with_reducible refine (label_Right.calls a0 t155 _ A7.out (HT.below (by repeat (first | (with_reducible first | exact HB.out | apply below_alloc | apply pw_below_drewN | apply below_drew1) | exact HB.out)))).mono ?_); rintro e w15 ⟨rfl, hb⟩; refine ⟨_, rfl, ?_⟩; have n0_ := Aside0.mk (below_step (by repeat (first | (with_reducible first | exact HB.out | apply below_alloc | apply pw_below_drewN | apply below_drew1) | exact HB.out)) hb); clear HB; have HB := n0_; clear n0_; (try clear hb); (try clear hb2); (try clear hk); (try clear hi)) | ((with_reducible refine gate_callee (f := 19) rfl ?_); refine goesL_ (some 16) rfl rfl Tryd.func19 (by kernel_rfl) rfl #[.string a0] rfl (by (try simp only [List.map_toArray, List.map_cons, List.map_nil]); first | done | rfl | (simp only [List.length_drop, List.length_take]; rfl) | (rw [wrap_sum2 (by assumption)]; rfl)) ?_; (with_reducible refine (rootcellarref1_Right.calls kj2 a0 t156 _ A8.out).mono ?_); rintro e w' ⟨rfl, ⟨nd, rfl⟩⟩; refine ⟨_, rfl, ?_⟩))
     go_ret
     exact ⟨by first | rfl | (simp [errW_none, errW_some] <;> rfl) | (simp [*, errW_none, errW_some] <;> rfl), by repeat (first | (with_reducible first | exact HB.out | apply below_alloc | apply pw_below_drewN | apply below_drew1) | exact HB.out)⟩


end Go.Proofs.YtapkghkcaflkmaaDoor.Fn
end
