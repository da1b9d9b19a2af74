-- Packed by pack.py, a program of this session, out of texts of this claim.
import Derived.Test.YtjoaiolacalemaaDoorProg
import Derived.Below
import Derived.Deep.Draws
import Derived.Deep.AppendLies
import Derived.Maps.AppendAt
import Derived.OwnWalk
import Derived.Laws.BytesArg
import Derived.Laws.MakeOwn
import Derived.Laws.OwnMore
import Derived.Deep.OwnRows
import Derived.Tactics
import Derived.Lib.ConvBytes
import Derived.Laws.Slices
import Derived.WalkKit
import Derived.KernelRfl
import Derived.RowKit3
import Derived.Deep.LoopGhost
import Derived.Deep.QuietTactic
import Derived.BigQuiet
import Derived.WideLaws
import Derived.Deep.DeepCutAuto
import Derived.Deep.CutBlock
import Derived.Deep.RegionHeld3
import Derived.Laws.Rows
import Derived.Lib.AppendStr
import Derived.ArgAppend
import Derived.Laws.IdiomCopy
import Derived.OrdersHeld
import Derived.Laws.BitsLemmas
import Derived.RowKit
import Derived.Test.YtjoaiolacalemaaDoorClDateBackLfPad
import Derived.Test.YtjoaiolacalemaaDoorClDateBack0
section
-- Written by printx.py, a program of this session over the kit's print: each Go function as a plain Lean function, and that the Go code computes it.




















































namespace Go.Proofs.YtjoaiolacalemaaDoor.Fn
open Go.RowKit Go.Proofs.YtjoaiolacalemaaDoorW.PrintWords Go.Proofs.YtjoaiolacalemaaDoorW.PrintLast Go.Proofs.YtjoaiolacalemaaDoorW.PrintMore Go.Proofs.YtjoaiolacalemaaDoor.Lf
attribute [local go_sem] max2_int min2_int max_two min_two max_three min_three max_four min_four   -- for this text's walks alone
set_option linter.unusedVariables false
set_option linter.unusedSimpArgs false



def errW : Option Int → Value
 | none => .nilIface
 | some c => .iface 0 (.int .i64 c)
theorem errW_none : errW none = .nilIface := rfl
theorem errW_some (c : Int) : errW (some c) = .iface 0 (.int .i64 c) := rfl

-- the values' own types

end Go.Proofs.YtjoaiolacalemaaDoor.Fn
end
section
-- Written by printx.py, a program of this session over the kit's print: each Go function as a plain Lean function, and that the Go code computes it.

namespace Go.Proofs.YtjoaiolacalemaaDoor.Fn
open Go.RowKit Go.Proofs.YtjoaiolacalemaaDoorW.PrintWords Go.Proofs.YtjoaiolacalemaaDoorW.PrintLast Go.Proofs.YtjoaiolacalemaaDoorW.PrintMore Go.Proofs.YtjoaiolacalemaaDoor.Lf
attribute [local go_sem] max2_int min2_int max_two min_two max_three min_three max_four min_four   -- for this text's walks alone
set_option linter.unusedVariables false
set_option linter.unusedSimpArgs false

/-! ### date_Civil: function 9 -/
def date_Civil.j0 : Nat → Int → Bool → Option (Int × Int × Int)
 | 0, _, _ => none
 | k + 1, x0, x15 => if x15 = true then (some (0, 0, 0)) else (if (wrap64 ((wrap64 (Int.tdiv (wrap64 ((wrap64 (5 * (wrap64 ((Int.tmod (wrap64 (x0 + 719468)) 146097) - (wrap64 ((wrap64 ((wrap64 (365 * (wrap64 (Int.tdiv (wrap64 ((wrap64 ((wrap64 ((Int.tmod (wrap64 (x0 + 719468)) 146097) - (wrap64 (Int.tdiv (Int.tmod (wrap64 (x0 + 719468)) 146097) 1460)))) + (wrap64 (Int.tdiv (Int.tmod (wrap64 (x0 + 719468)) 146097) 36524)))) - (wrap64 (Int.tdiv (Int.tmod (wrap64 (x0 + 719468)) 146097) 146096)))) 365)))) + (wrap64 (Int.tdiv (wrap64 (Int.tdiv (wrap64 ((wrap64 ((wrap64 ((Int.tmod (wrap64 (x0 + 719468)) 146097) - (wrap64 (Int.tdiv (Int.tmod (wrap64 (x0 + 719468)) 146097) 1460)))) + (wrap64 (Int.tdiv (Int.tmod (wrap64 (x0 + 719468)) 146097) 36524)))) - (wrap64 (Int.tdiv (Int.tmod (wrap64 (x0 + 719468)) 146097) 146096)))) 365)) 4)))) - (wrap64 (Int.tdiv (wrap64 (Int.tdiv (wrap64 ((wrap64 ((wrap64 ((Int.tmod (wrap64 (x0 + 719468)) 146097) - (wrap64 (Int.tdiv (Int.tmod (wrap64 (x0 + 719468)) 146097) 1460)))) + (wrap64 (Int.tdiv (Int.tmod (wrap64 (x0 + 719468)) 146097) 36524)))) - (wrap64 (Int.tdiv (Int.tmod (wrap64 (x0 + 719468)) 146097) 146096)))) 365)) 100)))))))) + 2)) 153)) + 3)) > 12 then (some (wrap64 ((wrap64 ((wrap64 (Int.tdiv (wrap64 ((wrap64 ((wrap64 ((Int.tmod (wrap64 (x0 + 719468)) 146097) - (wrap64 (Int.tdiv (Int.tmod (wrap64 (x0 + 719468)) 146097) 1460)))) + (wrap64 (Int.tdiv (Int.tmod (wrap64 (x0 + 719468)) 146097) 36524)))) - (wrap64 (Int.tdiv (Int.tmod (wrap64 (x0 + 719468)) 146097) 146096)))) 365)) + (wrap64 ((wrap64 (Int.tdiv (wrap64 (x0 + 719468)) 146097)) * 400)))) + 1), wrap64 ((wrap64 ((wrap64 (Int.tdiv (wrap64 ((wrap64 (5 * (wrap64 ((Int.tmod (wrap64 (x0 + 719468)) 146097) - (wrap64 ((wrap64 ((wrap64 (365 * (wrap64 (Int.tdiv (wrap64 ((wrap64 ((wrap64 ((Int.tmod (wrap64 (x0 + 719468)) 146097) - (wrap64 (Int.tdiv (Int.tmod (wrap64 (x0 + 719468)) 146097) 1460)))) + (wrap64 (Int.tdiv (Int.tmod (wrap64 (x0 + 719468)) 146097) 36524)))) - (wrap64 (Int.tdiv (Int.tmod (wrap64 (x0 + 719468)) 146097) 146096)))) 365)))) + (wrap64 (Int.tdiv (wrap64 (Int.tdiv (wrap64 ((wrap64 ((wrap64 ((Int.tmod (wrap64 (x0 + 719468)) 146097) - (wrap64 (Int.tdiv (Int.tmod (wrap64 (x0 + 719468)) 146097) 1460)))) + (wrap64 (Int.tdiv (Int.tmod (wrap64 (x0 + 719468)) 146097) 36524)))) - (wrap64 (Int.tdiv (Int.tmod (wrap64 (x0 + 719468)) 146097) 146096)))) 365)) 4)))) - (wrap64 (Int.tdiv (wrap64 (Int.tdiv (wrap64 ((wrap64 ((wrap64 ((Int.tmod (wrap64 (x0 + 719468)) 146097) - (wrap64 (Int.tdiv (Int.tmod (wrap64 (x0 + 719468)) 146097) 1460)))) + (wrap64 (Int.tdiv (Int.tmod (wrap64 (x0 + 719468)) 146097) 36524)))) - (wrap64 (Int.tdiv (Int.tmod (wrap64 (x0 + 719468)) 146097) 146096)))) 365)) 100)))))))) + 2)) 153)) + 3)) - 12), wrap64 ((wrap64 ((wrap64 ((Int.tmod (wrap64 (x0 + 719468)) 146097) - (wrap64 ((wrap64 ((wrap64 (365 * (wrap64 (Int.tdiv (wrap64 ((wrap64 ((wrap64 ((Int.tmod (wrap64 (x0 + 719468)) 146097) - (wrap64 (Int.tdiv (Int.tmod (wrap64 (x0 + 719468)) 146097) 1460)))) + (wrap64 (Int.tdiv (Int.tmod (wrap64 (x0 + 719468)) 146097) 36524)))) - (wrap64 (Int.tdiv (Int.tmod (wrap64 (x0 + 719468)) 146097) 146096)))) 365)))) + (wrap64 (Int.tdiv (wrap64 (Int.tdiv (wrap64 ((wrap64 ((wrap64 ((Int.tmod (wrap64 (x0 + 719468)) 146097) - (wrap64 (Int.tdiv (Int.tmod (wrap64 (x0 + 719468)) 146097) 1460)))) + (wrap64 (Int.tdiv (Int.tmod (wrap64 (x0 + 719468)) 146097) 36524)))) - (wrap64 (Int.tdiv (Int.tmod (wrap64 (x0 + 719468)) 146097) 146096)))) 365)) 4)))) - (wrap64 (Int.tdiv (wrap64 (Int.tdiv (wrap64 ((wrap64 ((wrap64 ((Int.tmod (wrap64 (x0 + 719468)) 146097) - (wrap64 (Int.tdiv (Int.tmod (wrap64 (x0 + 719468)) 146097) 1460)))) + (wrap64 (Int.tdiv (Int.tmod (wrap64 (x0 + 719468)) 146097) 36524)))) - (wrap64 (Int.tdiv (Int.tmod (wrap64 (x0 + 719468)) 146097) 146096)))) 365)) 100)))))) - (wrap64 (Int.tdiv (wrap64 ((wrap64 (153 * (wrap64 (Int.tdiv (wrap64 ((wrap64 (5 * (wrap64 ((Int.tmod (wrap64 (x0 + 719468)) 146097) - (wrap64 ((wrap64 ((wrap64 (365 * (wrap64 (Int.tdiv (wrap64 ((wrap64 ((wrap64 ((Int.tmod (wrap64 (x0 + 719468)) 146097) - (wrap64 (Int.tdiv (Int.tmod (wrap64 (x0 + 719468)) 146097) 1460)))) + (wrap64 (Int.tdiv (Int.tmod (wrap64 (x0 + 719468)) 146097) 36524)))) - (wrap64 (Int.tdiv (Int.tmod (wrap64 (x0 + 719468)) 146097) 146096)))) 365)))) + (wrap64 (Int.tdiv (wrap64 (Int.tdiv (wrap64 ((wrap64 ((wrap64 ((Int.tmod (wrap64 (x0 + 719468)) 146097) - (wrap64 (Int.tdiv (Int.tmod (wrap64 (x0 + 719468)) 146097) 1460)))) + (wrap64 (Int.tdiv (Int.tmod (wrap64 (x0 + 719468)) 146097) 36524)))) - (wrap64 (Int.tdiv (Int.tmod (wrap64 (x0 + 719468)) 146097) 146096)))) 365)) 4)))) - (wrap64 (Int.tdiv (wrap64 (Int.tdiv (wrap64 ((wrap64 ((wrap64 ((Int.tmod (wrap64 (x0 + 719468)) 146097) - (wrap64 (Int.tdiv (Int.tmod (wrap64 (x0 + 719468)) 146097) 1460)))) + (wrap64 (Int.tdiv (Int.tmod (wrap64 (x0 + 719468)) 146097) 36524)))) - (wrap64 (Int.tdiv (Int.tmod (wrap64 (x0 + 719468)) 146097) 146096)))) 365)) 100)))))))) + 2)) 153)))) + 2)) 5)))) + 1))) else (some (wrap64 ((wrap64 (Int.tdiv (wrap64 ((wrap64 ((wrap64 ((Int.tmod (wrap64 (x0 + 719468)) 146097) - (wrap64 (Int.tdiv (Int.tmod (wrap64 (x0 + 719468)) 146097) 1460)))) + (wrap64 (Int.tdiv (Int.tmod (wrap64 (x0 + 719468)) 146097) 36524)))) - (wrap64 (Int.tdiv (Int.tmod (wrap64 (x0 + 719468)) 146097) 146096)))) 365)) + (wrap64 ((wrap64 (Int.tdiv (wrap64 (x0 + 719468)) 146097)) * 400))), wrap64 ((wrap64 (Int.tdiv (wrap64 ((wrap64 (5 * (wrap64 ((Int.tmod (wrap64 (x0 + 719468)) 146097) - (wrap64 ((wrap64 ((wrap64 (365 * (wrap64 (Int.tdiv (wrap64 ((wrap64 ((wrap64 ((Int.tmod (wrap64 (x0 + 719468)) 146097) - (wrap64 (Int.tdiv (Int.tmod (wrap64 (x0 + 719468)) 146097) 1460)))) + (wrap64 (Int.tdiv (Int.tmod (wrap64 (x0 + 719468)) 146097) 36524)))) - (wrap64 (Int.tdiv (Int.tmod (wrap64 (x0 + 719468)) 146097) 146096)))) 365)))) + (wrap64 (Int.tdiv (wrap64 (Int.tdiv (wrap64 ((wrap64 ((wrap64 ((Int.tmod (wrap64 (x0 + 719468)) 146097) - (wrap64 (Int.tdiv (Int.tmod (wrap64 (x0 + 719468)) 146097) 1460)))) + (wrap64 (Int.tdiv (Int.tmod (wrap64 (x0 + 719468)) 146097) 36524)))) - (wrap64 (Int.tdiv (Int.tmod (wrap64 (x0 + 719468)) 146097) 146096)))) 365)) 4)))) - (wrap64 (Int.tdiv (wrap64 (Int.tdiv (wrap64 ((wrap64 ((wrap64 ((Int.tmod (wrap64 (x0 + 719468)) 146097) - (wrap64 (Int.tdiv (Int.tmod (wrap64 (x0 + 719468)) 146097) 1460)))) + (wrap64 (Int.tdiv (Int.tmod (wrap64 (x0 + 719468)) 146097) 36524)))) - (wrap64 (Int.tdiv (Int.tmod (wrap64 (x0 + 719468)) 146097) 146096)))) 365)) 100)))))))) + 2)) 153)) + 3), wrap64 ((wrap64 ((wrap64 ((Int.tmod (wrap64 (x0 + 719468)) 146097) - (wrap64 ((wrap64 ((wrap64 (365 * (wrap64 (Int.tdiv (wrap64 ((wrap64 ((wrap64 ((Int.tmod (wrap64 (x0 + 719468)) 146097) - (wrap64 (Int.tdiv (Int.tmod (wrap64 (x0 + 719468)) 146097) 1460)))) + (wrap64 (Int.tdiv (Int.tmod (wrap64 (x0 + 719468)) 146097) 36524)))) - (wrap64 (Int.tdiv (Int.tmod (wrap64 (x0 + 719468)) 146097) 146096)))) 365)))) + (wrap64 (Int.tdiv (wrap64 (Int.tdiv (wrap64 ((wrap64 ((wrap64 ((Int.tmod (wrap64 (x0 + 719468)) 146097) - (wrap64 (Int.tdiv (Int.tmod (wrap64 (x0 + 719468)) 146097) 1460)))) + (wrap64 (Int.tdiv (Int.tmod (wrap64 (x0 + 719468)) 146097) 36524)))) - (wrap64 (Int.tdiv (Int.tmod (wrap64 (x0 + 719468)) 146097) 146096)))) 365)) 4)))) - (wrap64 (Int.tdiv (wrap64 (Int.tdiv (wrap64 ((wrap64 ((wrap64 ((Int.tmod (wrap64 (x0 + 719468)) 146097) - (wrap64 (Int.tdiv (Int.tmod (wrap64 (x0 + 719468)) 146097) 1460)))) + (wrap64 (Int.tdiv (Int.tmod (wrap64 (x0 + 719468)) 146097) 36524)))) - (wrap64 (Int.tdiv (Int.tmod (wrap64 (x0 + 719468)) 146097) 146096)))) 365)) 100)))))) - (wrap64 (Int.tdiv (wrap64 ((wrap64 (153 * (wrap64 (Int.tdiv (wrap64 ((wrap64 (5 * (wrap64 ((Int.tmod (wrap64 (x0 + 719468)) 146097) - (wrap64 ((wrap64 ((wrap64 (365 * (wrap64 (Int.tdiv (wrap64 ((wrap64 ((wrap64 ((Int.tmod (wrap64 (x0 + 719468)) 146097) - (wrap64 (Int.tdiv (Int.tmod (wrap64 (x0 + 719468)) 146097) 1460)))) + (wrap64 (Int.tdiv (Int.tmod (wrap64 (x0 + 719468)) 146097) 36524)))) - (wrap64 (Int.tdiv (Int.tmod (wrap64 (x0 + 719468)) 146097) 146096)))) 365)))) + (wrap64 (Int.tdiv (wrap64 (Int.tdiv (wrap64 ((wrap64 ((wrap64 ((Int.tmod (wrap64 (x0 + 719468)) 146097) - (wrap64 (Int.tdiv (Int.tmod (wrap64 (x0 + 719468)) 146097) 1460)))) + (wrap64 (Int.tdiv (Int.tmod (wrap64 (x0 + 719468)) 146097) 36524)))) - (wrap64 (Int.tdiv (Int.tmod (wrap64 (x0 + 719468)) 146097) 146096)))) 365)) 4)))) - (wrap64 (Int.tdiv (wrap64 (Int.tdiv (wrap64 ((wrap64 ((wrap64 ((Int.tmod (wrap64 (x0 + 719468)) 146097) - (wrap64 (Int.tdiv (Int.tmod (wrap64 (x0 + 719468)) 146097) 1460)))) + (wrap64 (Int.tdiv (Int.tmod (wrap64 (x0 + 719468)) 146097) 36524)))) - (wrap64 (Int.tdiv (Int.tmod (wrap64 (x0 + 719468)) 146097) 146096)))) 365)) 100)))))))) + 2)) 153)))) + 2)) 5)))) + 1))))
def date_Civil.f (k : Nat) (a0 : Int) : Option (Int × Int × Int) := if a0 < 0 then (date_Civil.j0 k a0 true) else (date_Civil.j0 k a0 (decide (a0 > 281474976710656)))
theorem date_Civil.mono_l : ∀ k, (∀ y0 y1, LeO (date_Civil.j0 k y0 y1) (date_Civil.j0 (k + 1) y0 y1))
 | 0 => fun _ _ r h => by simp [date_Civil.j0] at h
 | k + 1 => by
  have ih0 := date_Civil.mono_l k
  ·intro y0 y1
   unfold date_Civil.j0
   repeat' first
   | (with_reducible exact ih0 _ _)
   | (with_reducible exact LeO.refl _)
   | (with_reducible exact LeO.none _)
   | (with_reducible refine LeO.ite ?_ ?_)
   | (with_reducible refine LeO.bind ?_ (fun _ => ?_))
   | exact ih0 _ _
   | exact LeO.none _
   | refine LeO.ite ?_ ?_
   | refine LeO.bind ?_ (fun _ => ?_)
theorem date_Civil.mono : ∀ a0 k, LeO (date_Civil.f k a0) (date_Civil.f (k + 1) a0) := by
 intro a0 k
 have ih0 := date_Civil.mono_l k
 unfold date_Civil.f
 repeat' first
   | (with_reducible exact ih0 _ _)
   | (with_reducible exact LeO.refl _)
   | (with_reducible exact LeO.none _)
   | (with_reducible refine LeO.ite ?_ ?_)
   | (with_reducible refine LeO.bind ?_ (fun _ => ?_))
   | exact ih0 _ _
   | exact LeO.none _
   | refine LeO.ite ?_ ?_
   | refine LeO.bind ?_ (fun _ => ?_)
set_option maxHeartbeats 8000000 in
set_option maxRecDepth 100000 in
theorem date_Civil.calls (k : Nat) (a0 : Int) (r1 : Int) (r2 : Int) (r3 : Int) (w : World) (h : date_Civil.f k a0 = some (r1, r2, r3)) :
  Calls Tryd.prog 9 #[.int .i64 a0] w fun e w' => e = .returned (.tuple #[.int .i64 r1, .int .i64 r2, .int .i64 r3]) ∧ Drawn0 w w' := by
 have H : (if a0 < 0 then (date_Civil.j0 k a0 true) else (date_Civil.j0 k a0 (decide (a0 > 281474976710656)))) = some (r1, r2, r3) := h
 clear h
 have HC2 := Aside0.mk H
 clear H
 go_enter Tryd.func9, Tryd.ntmps9
 go_upto_region 1 with (fail)
 go_cut [15] (fun v15 wc => ∃ (kq : Nat) (x15_1 : Bool), v15 = .bool x15_1 ∧ Aside0 (date_Civil.j0 kq a0 x15_1 = some (r1, r2, r3)) ∧ Aside0 (kq ≤ k) ∧ Drawn0 w wc)
 case first =>
  have H := HC2.out
  clear HC2
  by_cases c3 : a0 < 0
  ·rw [if_pos c3] at H
   have c3b0 : decide (a0 < 0) = true := decide_eq_true c3
   clear c3
   (first | rw [c3b0] | (simp only [i64_w, i32_w]; rw [c3b0]) | skip)
   have H' := Aside0.mk H
   clear H
   go_wp2
   go_meet
   case rel => exact ⟨_, (true), (by first | rfl | (simp; done) | (simp [*]; done)), H', ⟨by first | omega | exact Nat.le_refl _⟩, by repeat (first | exact Drawn0.refl _ | apply Drawn0.step)⟩
  ·rw [if_neg c3] at H
   have c3b0 : decide (a0 < 0) = false := decide_eq_false c3
   clear c3
   (first | rw [c3b0] | (simp only [i64_w, i32_w]; rw [c3b0]) | skip)
   have H' := Aside0.mk H
   clear H
   go_wp2
   go_meet
   case rel => exact ⟨_, (decide (a0 > 281474976710656)), (by first | rfl | (simp; done) | (simp [*]; done)), H', ⟨by first | omega | exact Nat.le_refl _⟩, by repeat (first | exact Drawn0.refl _ | apply Drawn0.step)⟩
 case rest =>
  clear HC2
  try clear p2
  try clear c3
  try clear c3b0
  obtain ⟨kq, x15_1, rfl, HA, HJ1, ⟨mc1, rfl⟩⟩ := hcut
  cases kq with
  | zero => exact absurd HA.out (by simp [date_Civil.j0])
  | succ kj1 =>
   have H := HA.out
   clear HA
   simp only [date_Civil.j0] at H
   by_cases c4 : x15_1 = true
   ·subst c4
    have H1 : (some (0, 0, 0)) = some (r1, r2, r3) := by rw [if_pos rfl] at H; exact H
    clear H
    have H := H1
    clear H1
    simp only [Option.some.injEq, Prod.mk.injEq] at H
    obtain ⟨rfl, rfl, rfl⟩ := H
    go_wp2
    go_ret3
    exact ⟨by first | rfl | (simp; done) | (simp [*]; done), by repeat (first | exact Drawn0.refl _ | apply Drawn0.step)⟩
   ·replace c4 := Bool.eq_false_iff.mpr c4
    subst c4
    have H1 : (if (wrap64 ((wrap64 (Int.tdiv (wrap64 ((wrap64 (5 * (wrap64 ((Int.tmod (wrap64 (a0 + 719468)) 146097) - (wrap64 ((wrap64 ((wrap64 (365 * (wrap64 (Int.tdiv (wrap64 ((wrap64 ((wrap64 ((Int.tmod (wrap64 (a0 + 719468)) 146097) - (wrap64 (Int.tdiv (Int.tmod (wrap64 (a0 + 719468)) 146097) 1460)))) + (wrap64 (Int.tdiv (Int.tmod (wrap64 (a0 + 719468)) 146097) 36524)))) - (wrap64 (Int.tdiv (Int.tmod (wrap64 (a0 + 719468)) 146097) 146096)))) 365)))) + (wrap64 (Int.tdiv (wrap64 (Int.tdiv (wrap64 ((wrap64 ((wrap64 ((Int.tmod (wrap64 (a0 + 719468)) 146097) - (wrap64 (Int.tdiv (Int.tmod (wrap64 (a0 + 719468)) 146097) 1460)))) + (wrap64 (Int.tdiv (Int.tmod (wrap64 (a0 + 719468)) 146097) 36524)))) - (wrap64 (Int.tdiv (Int.tmod (wrap64 (a0 + 719468)) 146097) 146096)))) 365)) 4)))) - (wrap64 (Int.tdiv (wrap64 (Int.tdiv (wrap64 ((wrap64 ((wrap64 ((Int.tmod (wrap64 (a0 + 719468)) 146097) - (wrap64 (Int.tdiv (Int.tmod (wrap64 (a0 + 719468)) 146097) 1460)))) + (wrap64 (Int.tdiv (Int.tmod (wrap64 (a0 + 719468)) 146097) 36524)))) - (wrap64 (Int.tdiv (Int.tmod (wrap64 (a0 + 719468)) 146097) 146096)))) 365)) 100)))))))) + 2)) 153)) + 3)) > 12 then (some (wrap64 ((wrap64 ((wrap64 (Int.tdiv (wrap64 ((wrap64 ((wrap64 ((Int.tmod (wrap64 (a0 + 719468)) 146097) - (wrap64 (Int.tdiv (Int.tmod (wrap64 (a0 + 719468)) 146097) 1460)))) + (wrap64 (Int.tdiv (Int.tmod (wrap64 (a0 + 719468)) 146097) 36524)))) - (wrap64 (Int.tdiv (Int.tmod (wrap64 (a0 + 719468)) 146097) 146096)))) 365)) + (wrap64 ((wrap64 (Int.tdiv (wrap64 (a0 + 719468)) 146097)) * 400)))) + 1), wrap64 ((wrap64 ((wrap64 (Int.tdiv (wrap64 ((wrap64 (5 * (wrap64 ((Int.tmod (wrap64 (a0 + 719468)) 146097) - (wrap64 ((wrap64 ((wrap64 (365 * (wrap64 (Int.tdiv (wrap64 ((wrap64 ((wrap64 ((Int.tmod (wrap64 (a0 + 719468)) 146097) - (wrap64 (Int.tdiv (Int.tmod (wrap64 (a0 + 719468)) 146097) 1460)))) + (wrap64 (Int.tdiv (Int.tmod (wrap64 (a0 + 719468)) 146097) 36524)))) - (wrap64 (Int.tdiv (Int.tmod (wrap64 (a0 + 719468)) 146097) 146096)))) 365)))) + (wrap64 (Int.tdiv (wrap64 (Int.tdiv (wrap64 ((wrap64 ((wrap64 ((Int.tmod (wrap64 (a0 + 719468)) 146097) - (wrap64 (Int.tdiv (Int.tmod (wrap64 (a0 + 719468)) 146097) 1460)))) + (wrap64 (Int.tdiv (Int.tmod (wrap64 (a0 + 719468)) 146097) 36524)))) - (wrap64 (Int.tdiv (Int.tmod (wrap64 (a0 + 719468)) 146097) 146096)))) 365)) 4)))) - (wrap64 (Int.tdiv (wrap64 (Int.tdiv (wrap64 ((wrap64 ((wrap64 ((Int.tmod (wrap64 (a0 + 719468)) 146097) - (wrap64 (Int.tdiv (Int.tmod (wrap64 (a0 + 719468)) 146097) 1460)))) + (wrap64 (Int.tdiv (Int.tmod (wrap64 (a0 + 719468)) 146097) 36524)))) - (wrap64 (Int.tdiv (Int.tmod (wrap64 (a0 + 719468)) 146097) 146096)))) 365)) 100)))))))) + 2)) 153)) + 3)) - 12), wrap64 ((wrap64 ((wrap64 ((Int.tmod (wrap64 (a0 + 719468)) 146097) - (wrap64 ((wrap64 ((wrap64 (365 * (wrap64 (Int.tdiv (wrap64 ((wrap64 ((wrap64 ((Int.tmod (wrap64 (a0 + 719468)) 146097) - (wrap64 (Int.tdiv (Int.tmod (wrap64 (a0 + 719468)) 146097) 1460)))) + (wrap64 (Int.tdiv (Int.tmod (wrap64 (a0 + 719468)) 146097) 36524)))) - (wrap64 (Int.tdiv (Int.tmod (wrap64 (a0 + 719468)) 146097) 146096)))) 365)))) + (wrap64 (Int.tdiv (wrap64 (Int.tdiv (wrap64 ((wrap64 ((wrap64 ((Int.tmod (wrap64 (a0 + 719468)) 146097) - (wrap64 (Int.tdiv (Int.tmod (wrap64 (a0 + 719468)) 146097) 1460)))) + (wrap64 (Int.tdiv (Int.tmod (wrap64 (a0 + 719468)) 146097) 36524)))) - (wrap64 (Int.tdiv (Int.tmod (wrap64 (a0 + 719468)) 146097) 146096)))) 365)) 4)))) - (wrap64 (Int.tdiv (wrap64 (Int.tdiv (wrap64 ((wrap64 ((wrap64 ((Int.tmod (wrap64 (a0 + 719468)) 146097) - (wrap64 (Int.tdiv (Int.tmod (wrap64 (a0 + 719468)) 146097) 1460)))) + (wrap64 (Int.tdiv (Int.tmod (wrap64 (a0 + 719468)) 146097) 36524)))) - (wrap64 (Int.tdiv (Int.tmod (wrap64 (a0 + 719468)) 146097) 146096)))) 365)) 100)))))) - (wrap64 (Int.tdiv (wrap64 ((wrap64 (153 * (wrap64 (Int.tdiv (wrap64 ((wrap64 (5 * (wrap64 ((Int.tmod (wrap64 (a0 + 719468)) 146097) - (wrap64 ((wrap64 ((wrap64 (365 * (wrap64 (Int.tdiv (wrap64 ((wrap64 ((wrap64 ((Int.tmod (wrap64 (a0 + 719468)) 146097) - (wrap64 (Int.tdiv (Int.tmod (wrap64 (a0 + 719468)) 146097) 1460)))) + (wrap64 (Int.tdiv (Int.tmod (wrap64 (a0 + 719468)) 146097) 36524)))) - (wrap64 (Int.tdiv (Int.tmod (wrap64 (a0 + 719468)) 146097) 146096)))) 365)))) + (wrap64 (Int.tdiv (wrap64 (Int.tdiv (wrap64 ((wrap64 ((wrap64 ((Int.tmod (wrap64 (a0 + 719468)) 146097) - (wrap64 (Int.tdiv (Int.tmod (wrap64 (a0 + 719468)) 146097) 1460)))) + (wrap64 (Int.tdiv (Int.tmod (wrap64 (a0 + 719468)) 146097) 36524)))) - (wrap64 (Int.tdiv (Int.tmod (wrap64 (a0 + 719468)) 146097) 146096)))) 365)) 4)))) - (wrap64 (Int.tdiv (wrap64 (Int.tdiv (wrap64 ((wrap64 ((wrap64 ((Int.tmod (wrap64 (a0 + 719468)) 146097) - (wrap64 (Int.tdiv (Int.tmod (wrap64 (a0 + 719468)) 146097) 1460)))) + (wrap64 (Int.tdiv (Int.tmod (wrap64 (a0 + 719468)) 146097) 36524)))) - (wrap64 (Int.tdiv (Int.tmod (wrap64 (a0 + 719468)) 146097) 146096)))) 365)) 100)))))))) + 2)) 153)))) + 2)) 5)))) + 1))) else (some (wrap64 ((wrap64 (Int.tdiv (wrap64 ((wrap64 ((wrap64 ((Int.tmod (wrap64 (a0 + 719468)) 146097) - (wrap64 (Int.tdiv (Int.tmod (wrap64 (a0 + 719468)) 146097) 1460)))) + (wrap64 (Int.tdiv (Int.tmod (wrap64 (a0 + 719468)) 146097) 36524)))) - (wrap64 (Int.tdiv (Int.tmod (wrap64 (a0 + 719468)) 146097) 146096)))) 365)) + (wrap64 ((wrap64 (Int.tdiv (wrap64 (a0 + 719468)) 146097)) * 400))), wrap64 ((wrap64 (Int.tdiv (wrap64 ((wrap64 (5 * (wrap64 ((Int.tmod (wrap64 (a0 + 719468)) 146097) - (wrap64 ((wrap64 ((wrap64 (365 * (wrap64 (Int.tdiv (wrap64 ((wrap64 ((wrap64 ((Int.tmod (wrap64 (a0 + 719468)) 146097) - (wrap64 (Int.tdiv (Int.tmod (wrap64 (a0 + 719468)) 146097) 1460)))) + (wrap64 (Int.tdiv (Int.tmod (wrap64 (a0 + 719468)) 146097) 36524)))) - (wrap64 (Int.tdiv (Int.tmod (wrap64 (a0 + 719468)) 146097) 146096)))) 365)))) + (wrap64 (Int.tdiv (wrap64 (Int.tdiv (wrap64 ((wrap64 ((wrap64 ((Int.tmod (wrap64 (a0 + 719468)) 146097) - (wrap64 (Int.tdiv (Int.tmod (wrap64 (a0 + 719468)) 146097) 1460)))) + (wrap64 (Int.tdiv (Int.tmod (wrap64 (a0 + 719468)) 146097) 36524)))) - (wrap64 (Int.tdiv (Int.tmod (wrap64 (a0 + 719468)) 146097) 146096)))) 365)) 4)))) - (wrap64 (Int.tdiv (wrap64 (Int.tdiv (wrap64 ((wrap64 ((wrap64 ((Int.tmod (wrap64 (a0 + 719468)) 146097) - (wrap64 (Int.tdiv (Int.tmod (wrap64 (a0 + 719468)) 146097) 1460)))) + (wrap64 (Int.tdiv (Int.tmod (wrap64 (a0 + 719468)) 146097) 36524)))) - (wrap64 (Int.tdiv (Int.tmod (wrap64 (a0 + 719468)) 146097) 146096)))) 365)) 100)))))))) + 2)) 153)) + 3), wrap64 ((wrap64 ((wrap64 ((Int.tmod (wrap64 (a0 + 719468)) 146097) - (wrap64 ((wrap64 ((wrap64 (365 * (wrap64 (Int.tdiv (wrap64 ((wrap64 ((wrap64 ((Int.tmod (wrap64 (a0 + 719468)) 146097) - (wrap64 (Int.tdiv (Int.tmod (wrap64 (a0 + 719468)) 146097) 1460)))) + (wrap64 (Int.tdiv (Int.tmod (wrap64 (a0 + 719468)) 146097) 36524)))) - (wrap64 (Int.tdiv (Int.tmod (wrap64 (a0 + 719468)) 146097) 146096)))) 365)))) + (wrap64 (Int.tdiv (wrap64 (Int.tdiv (wrap64 ((wrap64 ((wrap64 ((Int.tmod (wrap64 (a0 + 719468)) 146097) - (wrap64 (Int.tdiv (Int.tmod (wrap64 (a0 + 719468)) 146097) 1460)))) + (wrap64 (Int.tdiv (Int.tmod (wrap64 (a0 + 719468)) 146097) 36524)))) - (wrap64 (Int.tdiv (Int.tmod (wrap64 (a0 + 719468)) 146097) 146096)))) 365)) 4)))) - (wrap64 (Int.tdiv (wrap64 (Int.tdiv (wrap64 ((wrap64 ((wrap64 ((Int.tmod (wrap64 (a0 + 719468)) 146097) - (wrap64 (Int.tdiv (Int.tmod (wrap64 (a0 + 719468)) 146097) 1460)))) + (wrap64 (Int.tdiv (Int.tmod (wrap64 (a0 + 719468)) 146097) 36524)))) - (wrap64 (Int.tdiv (Int.tmod (wrap64 (a0 + 719468)) 146097) 146096)))) 365)) 100)))))) - (wrap64 (Int.tdiv (wrap64 ((wrap64 (153 * (wrap64 (Int.tdiv (wrap64 ((wrap64 (5 * (wrap64 ((Int.tmod (wrap64 (a0 + 719468)) 146097) - (wrap64 ((wrap64 ((wrap64 (365 * (wrap64 (Int.tdiv (wrap64 ((wrap64 ((wrap64 ((Int.tmod (wrap64 (a0 + 719468)) 146097) - (wrap64 (Int.tdiv (Int.tmod (wrap64 (a0 + 719468)) 146097) 1460)))) + (wrap64 (Int.tdiv (Int.tmod (wrap64 (a0 + 719468)) 146097) 36524)))) - (wrap64 (Int.tdiv (Int.tmod (wrap64 (a0 + 719468)) 146097) 146096)))) 365)))) + (wrap64 (Int.tdiv (wrap64 (Int.tdiv (wrap64 ((wrap64 ((wrap64 ((Int.tmod (wrap64 (a0 + 719468)) 146097) - (wrap64 (Int.tdiv (Int.tmod (wrap64 (a0 + 719468)) 146097) 1460)))) + (wrap64 (Int.tdiv (Int.tmod (wrap64 (a0 + 719468)) 146097) 36524)))) - (wrap64 (Int.tdiv (Int.tmod (wrap64 (a0 + 719468)) 146097) 146096)))) 365)) 4)))) - (wrap64 (Int.tdiv (wrap64 (Int.tdiv (wrap64 ((wrap64 ((wrap64 ((Int.tmod (wrap64 (a0 + 719468)) 146097) - (wrap64 (Int.tdiv (Int.tmod (wrap64 (a0 + 719468)) 146097) 1460)))) + (wrap64 (Int.tdiv (Int.tmod (wrap64 (a0 + 719468)) 146097) 36524)))) - (wrap64 (Int.tdiv (Int.tmod (wrap64 (a0 + 719468)) 146097) 146096)))) 365)) 100)))))))) + 2)) 153)))) + 2)) 5)))) + 1)))) = some (r1, r2, r3) := by rw [if_neg (show ¬ (false = true) by decide)] at H; exact H
    clear H
    have H := H1
    clear H1
    by_cases c5 : (wrap64 ((wrap64 (Int.tdiv (wrap64 ((wrap64 (5 * (wrap64 ((Int.tmod (wrap64 (a0 + 719468)) 146097) - (wrap64 ((wrap64 ((wrap64 (365 * (wrap64 (Int.tdiv (wrap64 ((wrap64 ((wrap64 ((Int.tmod (wrap64 (a0 + 719468)) 146097) - (wrap64 (Int.tdiv (Int.tmod (wrap64 (a0 + 719468)) 146097) 1460)))) + (wrap64 (Int.tdiv (Int.tmod (wrap64 (a0 + 719468)) 146097) 36524)))) - (wrap64 (Int.tdiv (Int.tmod (wrap64 (a0 + 719468)) 146097) 146096)))) 365)))) + (wrap64 (Int.tdiv (wrap64 (Int.tdiv (wrap64 ((wrap64 ((wrap64 ((Int.tmod (wrap64 (a0 + 719468)) 146097) - (wrap64 (Int.tdiv (Int.tmod (wrap64 (a0 + 719468)) 146097) 1460)))) + (wrap64 (Int.tdiv (Int.tmod (wrap64 (a0 + 719468)) 146097) 36524)))) - (wrap64 (Int.tdiv (Int.tmod (wrap64 (a0 + 719468)) 146097) 146096)))) 365)) 4)))) - (wrap64 (Int.tdiv (wrap64 (Int.tdiv (wrap64 ((wrap64 ((wrap64 ((Int.tmod (wrap64 (a0 + 719468)) 146097) - (wrap64 (Int.tdiv (Int.tmod (wrap64 (a0 + 719468)) 146097) 1460)))) + (wrap64 (Int.tdiv (Int.tmod (wrap64 (a0 + 719468)) 146097) 36524)))) - (wrap64 (Int.tdiv (Int.tmod (wrap64 (a0 + 719468)) 146097) 146096)))) 365)) 100)))))))) + 2)) 153)) + 3)) > 12
    ·rw [if_pos c5] at H
     have c5b0 : decide (12 < (wrap64 ((wrap64 (Int.tdiv (wrap64 ((wrap64 (5 * (wrap64 ((Int.tmod (wrap64 (a0 + 719468)) 146097) - (wrap64 ((wrap64 ((wrap64 (365 * (wrap64 (Int.tdiv (wrap64 ((wrap64 ((wrap64 ((Int.tmod (wrap64 (a0 + 719468)) 146097) - (wrap64 (Int.tdiv (Int.tmod (wrap64 (a0 + 719468)) 146097) 1460)))) + (wrap64 (Int.tdiv (Int.tmod (wrap64 (a0 + 719468)) 146097) 36524)))) - (wrap64 (Int.tdiv (Int.tmod (wrap64 (a0 + 719468)) 146097) 146096)))) 365)))) + (wrap64 (Int.tdiv (wrap64 (Int.tdiv (wrap64 ((wrap64 ((wrap64 ((Int.tmod (wrap64 (a0 + 719468)) 146097) - (wrap64 (Int.tdiv (Int.tmod (wrap64 (a0 + 719468)) 146097) 1460)))) + (wrap64 (Int.tdiv (Int.tmod (wrap64 (a0 + 719468)) 146097) 36524)))) - (wrap64 (Int.tdiv (Int.tmod (wrap64 (a0 + 719468)) 146097) 146096)))) 365)) 4)))) - (wrap64 (Int.tdiv (wrap64 (Int.tdiv (wrap64 ((wrap64 ((wrap64 ((Int.tmod (wrap64 (a0 + 719468)) 146097) - (wrap64 (Int.tdiv (Int.tmod (wrap64 (a0 + 719468)) 146097) 1460)))) + (wrap64 (Int.tdiv (Int.tmod (wrap64 (a0 + 719468)) 146097) 36524)))) - (wrap64 (Int.tdiv (Int.tmod (wrap64 (a0 + 719468)) 146097) 146096)))) 365)) 100)))))))) + 2)) 153)) + 3))) = true := decide_eq_true c5
     clear c5
     simp only [Option.some.injEq, Prod.mk.injEq] at H
     obtain ⟨rfl, rfl, rfl⟩ := H
     go_wp2
     go_ret3
     exact ⟨by first | rfl | (simp; done) | (simp [*]; done), by repeat (first | exact Drawn0.refl _ | apply Drawn0.step)⟩
    ·rw [if_neg c5] at H
     have c5b0 : decide (12 < (wrap64 ((wrap64 (Int.tdiv (wrap64 ((wrap64 (5 * (wrap64 ((Int.tmod (wrap64 (a0 + 719468)) 146097) - (wrap64 ((wrap64 ((wrap64 (365 * (wrap64 (Int.tdiv (wrap64 ((wrap64 ((wrap64 ((Int.tmod (wrap64 (a0 + 719468)) 146097) - (wrap64 (Int.tdiv (Int.tmod (wrap64 (a0 + 719468)) 146097) 1460)))) + (wrap64 (Int.tdiv (Int.tmod (wrap64 (a0 + 719468)) 146097) 36524)))) - (wrap64 (Int.tdiv (Int.tmod (wrap64 (a0 + 719468)) 146097) 146096)))) 365)))) + (wrap64 (Int.tdiv (wrap64 (Int.tdiv (wrap64 ((wrap64 ((wrap64 ((Int.tmod (wrap64 (a0 + 719468)) 146097) - (wrap64 (Int.tdiv (Int.tmod (wrap64 (a0 + 719468)) 146097) 1460)))) + (wrap64 (Int.tdiv (Int.tmod (wrap64 (a0 + 719468)) 146097) 36524)))) - (wrap64 (Int.tdiv (Int.tmod (wrap64 (a0 + 719468)) 146097) 146096)))) 365)) 4)))) - (wrap64 (Int.tdiv (wrap64 (Int.tdiv (wrap64 ((wrap64 ((wrap64 ((Int.tmod (wrap64 (a0 + 719468)) 146097) - (wrap64 (Int.tdiv (Int.tmod (wrap64 (a0 + 719468)) 146097) 1460)))) + (wrap64 (Int.tdiv (Int.tmod (wrap64 (a0 + 719468)) 146097) 36524)))) - (wrap64 (Int.tdiv (Int.tmod (wrap64 (a0 + 719468)) 146097) 146096)))) 365)) 100)))))))) + 2)) 153)) + 3))) = false := decide_eq_false c5
     clear c5
     simp only [Option.some.injEq, Prod.mk.injEq] at H
     obtain ⟨rfl, rfl, rfl⟩ := H
     go_wp2
     go_ret3
     exact ⟨by first | rfl | (simp; done) | (simp [*]; done), by repeat (first | exact Drawn0.refl _ | apply Drawn0.step)⟩

end Go.Proofs.YtjoaiolacalemaaDoor.Fn
end
section
-- Written by printx.py, a program of this session over the kit's print: each Go function as a plain Lean function, and that the Go code computes it.

namespace Go.Proofs.YtjoaiolacalemaaDoor.Fn
open Go.RowKit Go.Proofs.YtjoaiolacalemaaDoorW.PrintWords Go.Proofs.YtjoaiolacalemaaDoorW.PrintLast Go.Proofs.YtjoaiolacalemaaDoorW.PrintMore Go.Proofs.YtjoaiolacalemaaDoor.Lf
attribute [local go_sem] max2_int min2_int max_two min_two max_three min_three max_four min_four   -- for this text's walks alone
set_option linter.unusedVariables false
set_option linter.unusedSimpArgs false

/-! ### date_Leap: function 19 -/
def date_Leap.f (a0 : Int) : Option (Bool) := if (Int.tmod a0 4) = 0 then (if (Int.tmod a0 100) = 0 then (some ((Int.tmod a0 400) == 0)) else (some true)) else (some false)
set_option maxHeartbeats 8000000 in
set_option maxRecDepth 100000 in
theorem date_Leap.calls (a0 : Int) (r : Bool) (w : World) (h : date_Leap.f a0 = some r) :
  Calls Tryd.prog 19 #[.int .i64 a0] w fun e w' => e = .returned (.bool r) ∧ Drawn0 w w' := by
 have H : (if (Int.tmod a0 4) = 0 then (if (Int.tmod a0 100) = 0 then (some ((Int.tmod a0 400) == 0)) else (some true)) else (some false)) = some r := h
 clear h
 by_cases c2 : (Int.tmod a0 4) = 0
 ·rw [if_pos c2] at H
  have c2b0 : ((Int.tmod a0 4) == 0) = true := beq_iff_eq.mpr c2
  have c2b1 : ((Int.tmod a0 4) != 0) = false := bne_eq_false_iff_eq.mpr c2
  clear c2
  by_cases c3 : (Int.tmod a0 100) = 0
  ·rw [if_pos c3] at H
   have c3b0 : ((Int.tmod a0 100) == 0) = true := beq_iff_eq.mpr c3
   have c3b1 : ((Int.tmod a0 100) != 0) = false := bne_eq_false_iff_eq.mpr c3
   clear c3
   obtain rfl := Option.some.inj H
   go_enter Tryd.func19, Tryd.ntmps19
   go_wp2
   go_ret
   exact ⟨by first | rfl | (simp; done) | (simp [*]; done), by repeat (first | exact Drawn0.refl _ | apply Drawn0.step)⟩
  ·rw [if_neg c3] at H
   have c3b0 : ((Int.tmod a0 100) == 0) = false := beq_eq_false_iff_ne.mpr c3
   have c3b1 : ((Int.tmod a0 100) != 0) = true := bne_iff_ne.mpr c3
   obtain rfl := Option.some.inj H
   go_enter Tryd.func19, Tryd.ntmps19
   go_wp2
   go_ret
   exact ⟨by first | rfl | (simp; done) | (simp [*]; done), by repeat (first | exact Drawn0.refl _ | apply Drawn0.step)⟩
 ·rw [if_neg c2] at H
  have c2b0 : ((Int.tmod a0 4) == 0) = false := beq_eq_false_iff_ne.mpr c2
  have c2b1 : ((Int.tmod a0 4) != 0) = true := bne_iff_ne.mpr c2
  obtain rfl := Option.some.inj H
  go_enter Tryd.func19, Tryd.ntmps19
  go_wp2
  go_ret
  exact ⟨by first | rfl | (simp; done) | (simp [*]; done), by repeat (first | exact Drawn0.refl _ | apply Drawn0.step)⟩

end Go.Proofs.YtjoaiolacalemaaDoor.Fn
end
section
-- Written by printx.py, a program of this session over the kit's print: each Go function as a plain Lean function, and that the Go code computes it.


namespace Go.Proofs.YtjoaiolacalemaaDoor.Fn
open Go.RowKit Go.Proofs.YtjoaiolacalemaaDoorW.PrintWords Go.Proofs.YtjoaiolacalemaaDoorW.PrintLast Go.Proofs.YtjoaiolacalemaaDoorW.PrintMore Go.Proofs.YtjoaiolacalemaaDoor.Lf
attribute [local go_sem] max2_int min2_int max_two min_two max_three min_three max_four min_four   -- for this text's walks alone
set_option linter.unusedVariables false
set_option linter.unusedSimpArgs false

/-! ### date_Long: function 11 -/
/-- A month's days, by whether the year is leap. -/
def longM (leap : Bool) (m : Int) : Int := if m < 1 then 0 else if 12 < m then 0 else if m = 2 then (if leap = true then 29 else 28) else if m = 4 ∨ m = 6 ∨ m = 9 ∨ m = 11 then 30 else 31
def date_Long.f (a0 a1 : Int) : Option Int := (date_Leap.f a0).bind fun l => some (longM l a1)
set_option maxRecDepth 100000
theorem month_0 (w : World) : Sem.run Tryd.prog (Instr.index 45 (.agg #[.int .i64 31, .int .i64 28, .int .i64 31, .int .i64 30, .int .i64 31, .int .i64 30, .int .i64 31, .int .i64 31, .int .i64 30, .int .i64 31, .int .i64 30, .int .i64 31]) (.int .i64 0)) w = .ok (.int .i64 31) w := by
 simp [Instr.index, run_underlying Tryd.underlying45, asIntOf, go_sem]
theorem month_1 (w : World) : Sem.run Tryd.prog (Instr.index 45 (.agg #[.int .i64 31, .int .i64 28, .int .i64 31, .int .i64 30, .int .i64 31, .int .i64 30, .int .i64 31, .int .i64 31, .int .i64 30, .int .i64 31, .int .i64 30, .int .i64 31]) (.int .i64 1)) w = .ok (.int .i64 28) w := by
 simp [Instr.index, run_underlying Tryd.underlying45, asIntOf, go_sem]
theorem month_2 (w : World) : Sem.run Tryd.prog (Instr.index 45 (.agg #[.int .i64 31, .int .i64 28, .int .i64 31, .int .i64 30, .int .i64 31, .int .i64 30, .int .i64 31, .int .i64 31, .int .i64 30, .int .i64 31, .int .i64 30, .int .i64 31]) (.int .i64 2)) w = .ok (.int .i64 31) w := by
 simp [Instr.index, run_underlying Tryd.underlying45, asIntOf, go_sem]
theorem month_3 (w : World) : Sem.run Tryd.prog (Instr.index 45 (.agg #[.int .i64 31, .int .i64 28, .int .i64 31, .int .i64 30, .int .i64 31, .int .i64 30, .int .i64 31, .int .i64 31, .int .i64 30, .int .i64 31, .int .i64 30, .int .i64 31]) (.int .i64 3)) w = .ok (.int .i64 30) w := by
 simp [Instr.index, run_underlying Tryd.underlying45, asIntOf, go_sem]
theorem month_4 (w : World) : Sem.run Tryd.prog (Instr.index 45 (.agg #[.int .i64 31, .int .i64 28, .int .i64 31, .int .i64 30, .int .i64 31, .int .i64 30, .int .i64 31, .int .i64 31, .int .i64 30, .int .i64 31, .int .i64 30, .int .i64 31]) (.int .i64 4)) w = .ok (.int .i64 31) w := by
 simp [Instr.index, run_underlying Tryd.underlying45, asIntOf, go_sem]
theorem month_5 (w : World) : Sem.run Tryd.prog (Instr.index 45 (.agg #[.int .i64 31, .int .i64 28, .int .i64 31, .int .i64 30, .int .i64 31, .int .i64 30, .int .i64 31, .int .i64 31, .int .i64 30, .int .i64 31, .int .i64 30, .int .i64 31]) (.int .i64 5)) w = .ok (.int .i64 30) w := by
 simp [Instr.index, run_underlying Tryd.underlying45, asIntOf, go_sem]
theorem month_6 (w : World) : Sem.run Tryd.prog (Instr.index 45 (.agg #[.int .i64 31, .int .i64 28, .int .i64 31, .int .i64 30, .int .i64 31, .int .i64 30, .int .i64 31, .int .i64 31, .int .i64 30, .int .i64 31, .int .i64 30, .int .i64 31]) (.int .i64 6)) w = .ok (.int .i64 31) w := by
 simp [Instr.index, run_underlying Tryd.underlying45, asIntOf, go_sem]
theorem month_7 (w : World) : Sem.run Tryd.prog (Instr.index 45 (.agg #[.int .i64 31, .int .i64 28, .int .i64 31, .int .i64 30, .int .i64 31, .int .i64 30, .int .i64 31, .int .i64 31, .int .i64 30, .int .i64 31, .int .i64 30, .int .i64 31]) (.int .i64 7)) w = .ok (.int .i64 31) w := by
 simp [Instr.index, run_underlying Tryd.underlying45, asIntOf, go_sem]
theorem month_8 (w : World) : Sem.run Tryd.prog (Instr.index 45 (.agg #[.int .i64 31, .int .i64 28, .int .i64 31, .int .i64 30, .int .i64 31, .int .i64 30, .int .i64 31, .int .i64 31, .int .i64 30, .int .i64 31, .int .i64 30, .int .i64 31]) (.int .i64 8)) w = .ok (.int .i64 30) w := by
 simp [Instr.index, run_underlying Tryd.underlying45, asIntOf, go_sem]
theorem month_9 (w : World) : Sem.run Tryd.prog (Instr.index 45 (.agg #[.int .i64 31, .int .i64 28, .int .i64 31, .int .i64 30, .int .i64 31, .int .i64 30, .int .i64 31, .int .i64 31, .int .i64 30, .int .i64 31, .int .i64 30, .int .i64 31]) (.int .i64 9)) w = .ok (.int .i64 31) w := by
 simp [Instr.index, run_underlying Tryd.underlying45, asIntOf, go_sem]
theorem month_10 (w : World) : Sem.run Tryd.prog (Instr.index 45 (.agg #[.int .i64 31, .int .i64 28, .int .i64 31, .int .i64 30, .int .i64 31, .int .i64 30, .int .i64 31, .int .i64 31, .int .i64 30, .int .i64 31, .int .i64 30, .int .i64 31]) (.int .i64 10)) w = .ok (.int .i64 30) w := by
 simp [Instr.index, run_underlying Tryd.underlying45, asIntOf, go_sem]
theorem month_11 (w : World) : Sem.run Tryd.prog (Instr.index 45 (.agg #[.int .i64 31, .int .i64 28, .int .i64 31, .int .i64 30, .int .i64 31, .int .i64 30, .int .i64 31, .int .i64 31, .int .i64 30, .int .i64 31, .int .i64 30, .int .i64 31]) (.int .i64 11)) w = .ok (.int .i64 31) w := by
 simp [Instr.index, run_underlying Tryd.underlying45, asIntOf, go_sem]
attribute [local go_sem] month_0 month_1 month_2 month_3 month_4 month_5 month_6 month_7 month_8 month_9 month_10 month_11
set_option maxHeartbeats 4000000 in
set_option maxRecDepth 100000 in
theorem date_Long.calls (a0 a1 r : Int) (w : World) (h : date_Long.f a0 a1 = some r) :
  Calls Tryd.prog 11 #[.int .i64 a0, .int .i64 a1] w fun e w' => e = .returned (.int .i64 r) ∧ Below w.heap.size w w' := by
 unfold date_Long.f at h
 obtain ⟨l, hl, h⟩ := Option.bind_eq_some_iff.1 h
 cases h
 replace hl := Aside0.mk hl
 rename _ = _ => hjunk
 clear hjunk
 by_cases h1 : a1 < 1
 ·have b1 : decide (a1 < 1) = true := decide_eq_true h1
  unfold longM
  rw [if_pos h1]
  clear h1
  go_enter Tryd.func11, Tryd.ntmps11
  go_wp2
  go_ret
  exact ⟨rfl, Below.refl _ _⟩
 by_cases h2 : 12 < a1
 ·have b1 : decide (a1 < 1) = false := decide_eq_false h1
  have b2 : decide (12 < a1) = true := decide_eq_true h2
  unfold longM
  rw [if_neg h1, if_pos h2]
  clear h1 h2
  go_enter Tryd.func11, Tryd.ntmps11
  go_wp2
  go_ret
  exact ⟨rfl, Below.refl _ _⟩
 have hm : a1 = 1 ∨ a1 = 2 ∨ a1 = 3 ∨ a1 = 4 ∨ a1 = 5 ∨ a1 = 6 ∨ a1 = 7 ∨ a1 = 8 ∨ a1 = 9 ∨ a1 = 10 ∨ a1 = 11 ∨ a1 = 12 := by omega
 clear h1 h2
 rcases hm with rfl | rfl | rfl | rfl | rfl | rfl | rfl | rfl | rfl | rfl | rfl | rfl
 case inr.inl =>
  go_enter Tryd.func11, Tryd.ntmps11
  cases l with
  | true =>
   go_wp2_with (first | (go_at_call 19; (with_reducible refine (date_Leap.calls a0 true _ hl.out).mono ?_); rintro e w' ⟨rfl, ⟨nd, rfl⟩⟩))
   go_ret
   exact ⟨rfl, by first | exact Below.refl _ _ | exact pw_below_drewN (Below.refl _ _) _ | exact below_drew1 (pw_below_drewN (Below.refl _ _) _)⟩
  | false =>
   go_wp2_with (first | (go_at_call 19; (with_reducible refine (date_Leap.calls a0 false _ hl.out).mono ?_); rintro e w' ⟨rfl, ⟨nd, rfl⟩⟩))
   go_ret
   exact ⟨rfl, by first | exact Below.refl _ _ | exact pw_below_drewN (Below.refl _ _) _ | exact below_drew1 (pw_below_drewN (Below.refl _ _) _)⟩
 all_goals
  go_enter Tryd.func11, Tryd.ntmps11
  go_wp2
  go_ret
  exact ⟨rfl, by first | exact Below.refl _ _ | exact below_drew1 (Below.refl _ _)⟩

end Go.Proofs.YtjoaiolacalemaaDoor.Fn
end
section
-- Written by printx.py, a program of this session over the kit's print: each Go function as a plain Lean function, and that the Go code computes it.


namespace Go.Proofs.YtjoaiolacalemaaDoor.Fn
open Go.RowKit Go.Proofs.YtjoaiolacalemaaDoorW.PrintWords Go.Proofs.YtjoaiolacalemaaDoorW.PrintLast Go.Proofs.YtjoaiolacalemaaDoorW.PrintMore Go.Proofs.YtjoaiolacalemaaDoor.Lf
attribute [local go_sem] max2_int min2_int max_two min_two max_three min_three max_four min_four   -- for this text's walks alone
set_option linter.unusedVariables false
set_option linter.unusedSimpArgs false

/-! ### date_Day: function 10 -/
def date_Day.j0 : Nat → Int → Int → Int → Bool → Option (Int × Bool)
 | 0, _, _, _, _ => none
 | k + 1, x0, x1, x2, x28 => if x28 = true then (some (0, false)) else (if (wrap64 (x1 - 3)) < 0 then (if (wrap64 ((wrap64 ((wrap64 ((wrap64 ((wrap64 ((wrap64 ((wrap64 ((wrap64 ((wrap64 (Int.tdiv (wrap64 (x0 - 1)) 400)) * 146097)) + (wrap64 (365 * (Int.tmod (wrap64 (x0 - 1)) 400))))) + (wrap64 (Int.tdiv (Int.tmod (wrap64 (x0 - 1)) 400) 4)))) - (wrap64 (Int.tdiv (Int.tmod (wrap64 (x0 - 1)) 400) 100)))) + (wrap64 (Int.tdiv (wrap64 ((wrap64 (153 * (wrap64 ((wrap64 (x1 - 3)) + 12)))) + 2)) 5)))) + x2)) - 1)) - 719468)) > 281474976710656 then (some (0, false)) else (some (wrap64 ((wrap64 ((wrap64 ((wrap64 ((wrap64 ((wrap64 ((wrap64 ((wrap64 ((wrap64 (Int.tdiv (wrap64 (x0 - 1)) 400)) * 146097)) + (wrap64 (365 * (Int.tmod (wrap64 (x0 - 1)) 400))))) + (wrap64 (Int.tdiv (Int.tmod (wrap64 (x0 - 1)) 400) 4)))) - (wrap64 (Int.tdiv (Int.tmod (wrap64 (x0 - 1)) 400) 100)))) + (wrap64 (Int.tdiv (wrap64 ((wrap64 (153 * (wrap64 ((wrap64 (x1 - 3)) + 12)))) + 2)) 5)))) + x2)) - 1)) - 719468), true))) else (if (wrap64 ((wrap64 ((wrap64 ((wrap64 ((wrap64 ((wrap64 ((wrap64 ((wrap64 ((wrap64 (Int.tdiv x0 400)) * 146097)) + (wrap64 (365 * (Int.tmod x0 400))))) + (wrap64 (Int.tdiv (Int.tmod x0 400) 4)))) - (wrap64 (Int.tdiv (Int.tmod x0 400) 100)))) + (wrap64 (Int.tdiv (wrap64 ((wrap64 (153 * (wrap64 (x1 - 3)))) + 2)) 5)))) + x2)) - 1)) - 719468)) > 281474976710656 then (some (0, false)) else (some (wrap64 ((wrap64 ((wrap64 ((wrap64 ((wrap64 ((wrap64 ((wrap64 ((wrap64 ((wrap64 (Int.tdiv x0 400)) * 146097)) + (wrap64 (365 * (Int.tmod x0 400))))) + (wrap64 (Int.tdiv (Int.tmod x0 400) 4)))) - (wrap64 (Int.tdiv (Int.tmod x0 400) 100)))) + (wrap64 (Int.tdiv (wrap64 ((wrap64 (153 * (wrap64 (x1 - 3)))) + 2)) 5)))) + x2)) - 1)) - 719468), true))))
def date_Day.f (k : Nat) (a0 : Int) (a1 : Int) (a2 : Int) : Option (Int × Bool) := if a0 < 1970 then (date_Day.j0 k a0 a1 a2 true) else (if a0 > 281474976710656 then (date_Day.j0 k a0 a1 a2 true) else (if a2 < 1 then (date_Day.j0 k a0 a1 a2 true) else ((date_Long.f a0 a1).bind fun t110 => (date_Day.j0 k a0 a1 a2 (decide (a2 > t110))))))
theorem date_Day.mono_l : ∀ k, (∀ y0 y1 y2 y3, LeO (date_Day.j0 k y0 y1 y2 y3) (date_Day.j0 (k + 1) y0 y1 y2 y3))
 | 0 => fun _ _ _ _ r h => by simp [date_Day.j0] at h
 | k + 1 => by
  have ih0 := date_Day.mono_l k
  ·intro y0 y1 y2 y3
   unfold date_Day.j0
   repeat' first
   | (with_reducible exact ih0 _ _ _ _)
   | (with_reducible exact LeO.refl _)
   | (with_reducible exact LeO.none _)
   | (with_reducible refine LeO.ite ?_ ?_)
   | (with_reducible refine LeO.bind ?_ (fun _ => ?_))
   | exact ih0 _ _ _ _
   | exact LeO.none _
   | refine LeO.ite ?_ ?_
   | refine LeO.bind ?_ (fun _ => ?_)
theorem date_Day.mono : ∀ a0 a1 a2 k, LeO (date_Day.f k a0 a1 a2) (date_Day.f (k + 1) a0 a1 a2) := by
 intro a0 a1 a2 k
 have ih0 := date_Day.mono_l k
 unfold date_Day.f
 repeat' first
   | (with_reducible exact ih0 _ _ _ _)
   | (with_reducible exact LeO.refl _)
   | (with_reducible exact LeO.none _)
   | (with_reducible refine LeO.ite ?_ ?_)
   | (with_reducible refine LeO.bind ?_ (fun _ => ?_))
   | exact ih0 _ _ _ _
   | exact LeO.none _
   | refine LeO.ite ?_ ?_
   | refine LeO.bind ?_ (fun _ => ?_)
set_option maxHeartbeats 8000000 in
set_option maxRecDepth 100000 in
theorem date_Day.calls (k : Nat) (a0 : Int) (a1 : Int) (a2 : Int) (r1 : Int) (r2 : Bool) (w : World) (h : date_Day.f k a0 a1 a2 = some (r1, r2)) :
  Calls Tryd.prog 10 #[.int .i64 a0, .int .i64 a1, .int .i64 a2] w fun e w' => e = .returned (.tuple #[.int .i64 r1, .bool r2]) ∧ Below w.heap.size w w' := by
 have HB := Aside0.mk (Below.refl w.heap.size w)
 have H : (if a0 < 1970 then (date_Day.j0 k a0 a1 a2 true) else (if a0 > 281474976710656 then (date_Day.j0 k a0 a1 a2 true) else (if a2 < 1 then (date_Day.j0 k a0 a1 a2 true) else ((date_Long.f a0 a1).bind fun t110 => (date_Day.j0 k a0 a1 a2 (decide (a2 > t110))))))) = some (r1, r2) := h
 clear h
 have HC4 := Aside0.mk H
 clear H
 go_enter Tryd.func10, Tryd.ntmps10
 go_upto_region 1 with (fail)
 go_cut [28] (fun v28 wc => ∃ (kq : Nat) (x28_3 : Bool), v28 = .bool x28_3 ∧ Aside0 (date_Day.j0 kq a0 a1 a2 x28_3 = some (r1, r2)) ∧ Aside0 (kq ≤ k) ∧ Aside0 (Below w.heap.size w wc))
 case first =>
  have H := HC4.out
  clear HC4
  by_cases c5 : a0 < 1970
  ·rw [if_pos c5] at H
   have c5b0 : decide (a0 < 1970) = true := decide_eq_true c5
   clear c5
   (first | rw [c5b0] | (simp only [i64_w, i32_w]; rw [c5b0]) | skip)
   have H' := Aside0.mk H
   clear H
   go_wp2
   go_meet
   case rel => exact ⟨_, (true), (by first | rfl | (simp; done) | (simp [*]; done)), H', ⟨by first | omega | exact Nat.le_refl _⟩, ⟨by repeat (first | (with_reducible first | exact HB.out | apply below_alloc | apply pw_below_drewN | apply below_drew1) | exact HB.out)⟩⟩
  ·rw [if_neg c5] at H
   have c5b0 : decide (a0 < 1970) = false := decide_eq_false c5
   clear c5
   (first | rw [c5b0] | (simp only [i64_w, i32_w]; rw [c5b0]) | skip)
   by_cases c6 : a0 > 281474976710656
   ·rw [if_pos c6] at H
    have c6b0 : decide (281474976710656 < a0) = true := decide_eq_true c6
    clear c6
    have H' := Aside0.mk H
    clear H
    go_wp2
    go_meet
    case rel => exact ⟨_, (true), (by first | rfl | (simp; done) | (simp [*]; done)), H', ⟨by first | omega | exact Nat.le_refl _⟩, ⟨by repeat (first | (with_reducible first | exact HB.out | apply below_alloc | apply pw_below_drewN | apply below_drew1) | exact HB.out)⟩⟩
   ·rw [if_neg c6] at H
    have c6b0 : decide (281474976710656 < a0) = false := decide_eq_false c6
    clear c6
    by_cases c7 : a2 < 1
    ·rw [if_pos c7] at H
     have c7b0 : decide (a2 < 1) = true := decide_eq_true c7
     clear c7
     have H' := Aside0.mk H
     clear H
     go_wp2
     go_meet
     case rel => exact ⟨_, (true), (by first | rfl | (simp; done) | (simp [*]; done)), H', ⟨by first | omega | exact Nat.le_refl _⟩, ⟨by repeat (first | (with_reducible first | exact HB.out | apply below_alloc | apply pw_below_drewN | apply below_drew1) | exact HB.out)⟩⟩
    ·rw [if_neg c7] at H
     have c7b0 : decide (a2 < 1) = false := decide_eq_false c7
     clear c7
     replace H := Option.bind_eq_some_iff.mp H
     obtain ⟨t110, A80, H⟩ := H
     replace H : (date_Day.j0 k a0 a1 a2 (decide (a2 > t110))) = some (r1, r2) := H
     have A8 := Aside0.mk A80
     clear A80
     have H' := Aside0.mk H
     clear H
     go_wp2_with (first | (go_at_call 11; (with_reducible refine (date_Long.calls a0 a1 t110 _ A8.out).mono ?_); rintro e w9 ⟨rfl, hb⟩; have n0_ := Aside0.mk (below_step (by repeat (first | (with_reducible first | exact HB.out | apply below_alloc | apply pw_below_drewN | apply below_drew1) | exact HB.out)) hb); clear HB; have HB := n0_; clear n0_; (try clear hb); (try clear hb2); (try clear hk); (try clear hi)))
     go_meet
     case rel => exact ⟨_, (decide (a2 > t110)), (by first | rfl | (simp; done) | (simp [*]; done)), H', ⟨by first | omega | exact Nat.le_refl _⟩, ⟨by repeat (first | (with_reducible first | exact HB.out | apply below_alloc | apply pw_below_drewN | apply below_drew1) | exact HB.out)⟩⟩
 case rest =>
  clear HC4
  try clear c1
  try clear p2
  try clear c5
  try clear c5b0
  try clear c6
  try clear c6b0
  try clear c7
  try clear c7b0
  obtain ⟨kq, x28_3, rfl, HA, HJ3, HB⟩ := hcut
  cases kq with
  | zero => exact absurd HA.out (by simp [date_Day.j0])
  | succ kj3 =>
   have H := HA.out
   clear HA
   simp only [date_Day.j0] at H
   by_cases c10 : x28_3 = true
   ·subst c10
    have H1 : (some (0, false)) = some (r1, r2) := by rw [if_pos rfl] at H; exact H
    clear H
    have H := H1
    clear H1
    simp only [Option.some.injEq, Prod.mk.injEq] at H
    obtain ⟨rfl, rfl⟩ := H
    go_wp2
    go_ret2
    exact ⟨by first | rfl | (simp [errW_none, errW_some] <;> rfl) | (simp [*, errW_none, errW_some] <;> rfl), by repeat (first | (with_reducible first | exact HB.out | apply below_alloc | apply pw_below_drewN | apply below_drew1) | exact HB.out)⟩
   ·replace c10 := Bool.eq_false_iff.mpr c10
    subst c10
    have H1 : (if (wrap64 (a1 - 3)) < 0 then (if (wrap64 ((wrap64 ((wrap64 ((wrap64 ((wrap64 ((wrap64 ((wrap64 ((wrap64 ((wrap64 (Int.tdiv (wrap64 (a0 - 1)) 400)) * 146097)) + (wrap64 (365 * (Int.tmod (wrap64 (a0 - 1)) 400))))) + (wrap64 (Int.tdiv (Int.tmod (wrap64 (a0 - 1)) 400) 4)))) - (wrap64 (Int.tdiv (Int.tmod (wrap64 (a0 - 1)) 400) 100)))) + (wrap64 (Int.tdiv (wrap64 ((wrap64 (153 * (wrap64 ((wrap64 (a1 - 3)) + 12)))) + 2)) 5)))) + a2)) - 1)) - 719468)) > 281474976710656 then (some (0, false)) else (some (wrap64 ((wrap64 ((wrap64 ((wrap64 ((wrap64 ((wrap64 ((wrap64 ((wrap64 ((wrap64 (Int.tdiv (wrap64 (a0 - 1)) 400)) * 146097)) + (wrap64 (365 * (Int.tmod (wrap64 (a0 - 1)) 400))))) + (wrap64 (Int.tdiv (Int.tmod (wrap64 (a0 - 1)) 400) 4)))) - (wrap64 (Int.tdiv (Int.tmod (wrap64 (a0 - 1)) 400) 100)))) + (wrap64 (Int.tdiv (wrap64 ((wrap64 (153 * (wrap64 ((wrap64 (a1 - 3)) + 12)))) + 2)) 5)))) + a2)) - 1)) - 719468), true))) else (if (wrap64 ((wrap64 ((wrap64 ((wrap64 ((wrap64 ((wrap64 ((wrap64 ((wrap64 ((wrap64 (Int.tdiv a0 400)) * 146097)) + (wrap64 (365 * (Int.tmod a0 400))))) + (wrap64 (Int.tdiv (Int.tmod a0 400) 4)))) - (wrap64 (Int.tdiv (Int.tmod a0 400) 100)))) + (wrap64 (Int.tdiv (wrap64 ((wrap64 (153 * (wrap64 (a1 - 3)))) + 2)) 5)))) + a2)) - 1)) - 719468)) > 281474976710656 then (some (0, false)) else (some (wrap64 ((wrap64 ((wrap64 ((wrap64 ((wrap64 ((wrap64 ((wrap64 ((wrap64 ((wrap64 (Int.tdiv a0 400)) * 146097)) + (wrap64 (365 * (Int.tmod a0 400))))) + (wrap64 (Int.tdiv (Int.tmod a0 400) 4)))) - (wrap64 (Int.tdiv (Int.tmod a0 400) 100)))) + (wrap64 (Int.tdiv (wrap64 ((wrap64 (153 * (wrap64 (a1 - 3)))) + 2)) 5)))) + a2)) - 1)) - 719468), true)))) = some (r1, r2) := by rw [if_neg (show ¬ (false = true) by decide)] at H; exact H
    clear H
    have H := H1
    clear H1
    by_cases c11 : (wrap64 (a1 - 3)) < 0
    ·rw [if_pos c11] at H
     have c11b0 : decide ((wrap64 (a1 - 3)) < 0) = true := decide_eq_true c11
     clear c11
     by_cases c12 : (wrap64 ((wrap64 ((wrap64 ((wrap64 ((wrap64 ((wrap64 ((wrap64 ((wrap64 ((wrap64 (Int.tdiv (wrap64 (a0 - 1)) 400)) * 146097)) + (wrap64 (365 * (Int.tmod (wrap64 (a0 - 1)) 400))))) + (wrap64 (Int.tdiv (Int.tmod (wrap64 (a0 - 1)) 400) 4)))) - (wrap64 (Int.tdiv (Int.tmod (wrap64 (a0 - 1)) 400) 100)))) + (wrap64 (Int.tdiv (wrap64 ((wrap64 (153 * (wrap64 ((wrap64 (a1 - 3)) + 12)))) + 2)) 5)))) + a2)) - 1)) - 719468)) > 281474976710656
     ·rw [if_pos c12] at H
      have c12b0 : decide (281474976710656 < (wrap64 ((wrap64 ((wrap64 ((wrap64 ((wrap64 ((wrap64 ((wrap64 ((wrap64 ((wrap64 (Int.tdiv (wrap64 (a0 - 1)) 400)) * 146097)) + (wrap64 (365 * (Int.tmod (wrap64 (a0 - 1)) 400))))) + (wrap64 (Int.tdiv (Int.tmod (wrap64 (a0 - 1)) 400) 4)))) - (wrap64 (Int.tdiv (Int.tmod (wrap64 (a0 - 1)) 400) 100)))) + (wrap64 (Int.tdiv (wrap64 ((wrap64 (153 * (wrap64 ((wrap64 (a1 - 3)) + 12)))) + 2)) 5)))) + a2)) - 1)) - 719468))) = true := decide_eq_true c12
      clear c12
      simp only [Option.some.injEq, Prod.mk.injEq] at H
      obtain ⟨rfl, rfl⟩ := H
      go_wp2
      go_ret2
      exact ⟨by first | rfl | (simp [errW_none, errW_some] <;> rfl) | (simp [*, errW_none, errW_some] <;> rfl), by repeat (first | (with_reducible first | exact HB.out | apply below_alloc | apply pw_below_drewN | apply below_drew1) | exact HB.out)⟩
     ·rw [if_neg c12] at H
      have c12b0 : decide (281474976710656 < (wrap64 ((wrap64 ((wrap64 ((wrap64 ((wrap64 ((wrap64 ((wrap64 ((wrap64 ((wrap64 (Int.tdiv (wrap64 (a0 - 1)) 400)) * 146097)) + (wrap64 (365 * (Int.tmod (wrap64 (a0 - 1)) 400))))) + (wrap64 (Int.tdiv (Int.tmod (wrap64 (a0 - 1)) 400) 4)))) - (wrap64 (Int.tdiv (Int.tmod (wrap64 (a0 - 1)) 400) 100)))) + (wrap64 (Int.tdiv (wrap64 ((wrap64 (153 * (wrap64 ((wrap64 (a1 - 3)) + 12)))) + 2)) 5)))) + a2)) - 1)) - 719468))) = false := decide_eq_false c12
      clear c12
      simp only [Option.some.injEq, Prod.mk.injEq] at H
      obtain ⟨rfl, rfl⟩ := H
      go_wp2
      go_ret2
      exact ⟨by first | rfl | (simp [errW_none, errW_some] <;> rfl) | (simp [*, errW_none, errW_some] <;> rfl), by repeat (first | (with_reducible first | exact HB.out | apply below_alloc | apply pw_below_drewN | apply below_drew1) | exact HB.out)⟩
    ·rw [if_neg c11] at H
     have c11b0 : decide ((wrap64 (a1 - 3)) < 0) = false := decide_eq_false c11
     clear c11
     by_cases c13 : (wrap64 ((wrap64 ((wrap64 ((wrap64 ((wrap64 ((wrap64 ((wrap64 ((wrap64 ((wrap64 (Int.tdiv a0 400)) * 146097)) + (wrap64 (365 * (Int.tmod a0 400))))) + (wrap64 (Int.tdiv (Int.tmod a0 400) 4)))) - (wrap64 (Int.tdiv (Int.tmod a0 400) 100)))) + (wrap64 (Int.tdiv (wrap64 ((wrap64 (153 * (wrap64 (a1 - 3)))) + 2)) 5)))) + a2)) - 1)) - 719468)) > 281474976710656
     ·rw [if_pos c13] at H
      have c13b0 : decide (281474976710656 < (wrap64 ((wrap64 ((wrap64 ((wrap64 ((wrap64 ((wrap64 ((wrap64 ((wrap64 ((wrap64 (Int.tdiv a0 400)) * 146097)) + (wrap64 (365 * (Int.tmod a0 400))))) + (wrap64 (Int.tdiv (Int.tmod a0 400) 4)))) - (wrap64 (Int.tdiv (Int.tmod a0 400) 100)))) + (wrap64 (Int.tdiv (wrap64 ((wrap64 (153 * (wrap64 (a1 - 3)))) + 2)) 5)))) + a2)) - 1)) - 719468))) = true := decide_eq_true c13
      clear c13
      simp only [Option.some.injEq, Prod.mk.injEq] at H
      obtain ⟨rfl, rfl⟩ := H
      go_wp2
      go_ret2
      exact ⟨by first | rfl | (simp [errW_none, errW_some] <;> rfl) | (simp [*, errW_none, errW_some] <;> rfl), by repeat (first | (with_reducible first | exact HB.out | apply below_alloc | apply pw_below_drewN | apply below_drew1) | exact HB.out)⟩
     ·rw [if_neg c13] at H
      have c13b0 : decide (281474976710656 < (wrap64 ((wrap64 ((wrap64 ((wrap64 ((wrap64 ((wrap64 ((wrap64 ((wrap64 ((wrap64 (Int.tdiv a0 400)) * 146097)) + (wrap64 (365 * (Int.tmod a0 400))))) + (wrap64 (Int.tdiv (Int.tmod a0 400) 4)))) - (wrap64 (Int.tdiv (Int.tmod a0 400) 100)))) + (wrap64 (Int.tdiv (wrap64 ((wrap64 (153 * (wrap64 (a1 - 3)))) + 2)) 5)))) + a2)) - 1)) - 719468))) = false := decide_eq_false c13
      clear c13
      simp only [Option.some.injEq, Prod.mk.injEq] at H
      obtain ⟨rfl, rfl⟩ := H
      go_wp2
      go_ret2
      exact ⟨by first | rfl | (simp [errW_none, errW_some] <;> rfl) | (simp [*, errW_none, errW_some] <;> rfl), by repeat (first | (with_reducible first | exact HB.out | apply below_alloc | apply pw_below_drewN | apply below_drew1) | exact HB.out)⟩

end Go.Proofs.YtjoaiolacalemaaDoor.Fn
end
section
-- Written by printx.py, a program of this session over the kit's print: each Go function as a plain Lean function, and that the Go code computes it.

namespace Go.Proofs.YtjoaiolacalemaaDoor.Fn
open Go.RowKit Go.Proofs.YtjoaiolacalemaaDoorW.PrintWords Go.Proofs.YtjoaiolacalemaaDoorW.PrintLast Go.Proofs.YtjoaiolacalemaaDoorW.PrintMore Go.Proofs.YtjoaiolacalemaaDoor.Lf
attribute [local go_sem] max2_int min2_int max_two min_two max_three min_three max_four min_four   -- for this text's walks alone
set_option linter.unusedVariables false
set_option linter.unusedSimpArgs false

/-! ### rootcellarref15_Leap: function 35 -/
def rootcellarref15_Leap.f (a0 : Int) : Option (Bool) := if (Int.tmod a0 4) = 0 then (if (Int.tmod a0 100) = 0 then (some ((Int.tmod a0 400) == 0)) else (some true)) else (some ((Int.tmod a0 400) == 0))
set_option maxHeartbeats 8000000 in
set_option maxRecDepth 100000 in
theorem rootcellarref15_Leap.calls (a0 : Int) (r : Bool) (w : World) (h : rootcellarref15_Leap.f a0 = some r) :
  Calls Tryd.prog 35 #[.int .i64 a0] w fun e w' => e = .returned (.bool r) ∧ Drawn0 w w' := by
 have H : (if (Int.tmod a0 4) = 0 then (if (Int.tmod a0 100) = 0 then (some ((Int.tmod a0 400) == 0)) else (some true)) else (some ((Int.tmod a0 400) == 0))) = some r := h
 clear h
 by_cases c2 : (Int.tmod a0 4) = 0
 ·rw [if_pos c2] at H
  have c2b0 : ((Int.tmod a0 4) == 0) = true := beq_iff_eq.mpr c2
  have c2b1 : ((Int.tmod a0 4) != 0) = false := bne_eq_false_iff_eq.mpr c2
  clear c2
  by_cases c3 : (Int.tmod a0 100) = 0
  ·rw [if_pos c3] at H
   have c3b0 : ((Int.tmod a0 100) == 0) = true := beq_iff_eq.mpr c3
   have c3b1 : ((Int.tmod a0 100) != 0) = false := bne_eq_false_iff_eq.mpr c3
   clear c3
   obtain rfl := Option.some.inj H
   go_enter Tryd.func35, Tryd.ntmps35
   go_wp2
   go_ret
   exact ⟨by first | rfl | (simp; done) | (simp [*]; done), by repeat (first | exact Drawn0.refl _ | apply Drawn0.step)⟩
  ·rw [if_neg c3] at H
   have c3b0 : ((Int.tmod a0 100) == 0) = false := beq_eq_false_iff_ne.mpr c3
   have c3b1 : ((Int.tmod a0 100) != 0) = true := bne_iff_ne.mpr c3
   obtain rfl := Option.some.inj H
   go_enter Tryd.func35, Tryd.ntmps35
   go_wp2
   go_ret
   exact ⟨by first | rfl | (simp; done) | (simp [*]; done), by repeat (first | exact Drawn0.refl _ | apply Drawn0.step)⟩
 ·rw [if_neg c2] at H
  have c2b0 : ((Int.tmod a0 4) == 0) = false := beq_eq_false_iff_ne.mpr c2
  have c2b1 : ((Int.tmod a0 4) != 0) = true := bne_iff_ne.mpr c2
  obtain rfl := Option.some.inj H
  go_enter Tryd.func35, Tryd.ntmps35
  go_wp2
  go_ret
  exact ⟨by first | rfl | (simp; done) | (simp [*]; done), by repeat (first | exact Drawn0.refl _ | apply Drawn0.step)⟩

end Go.Proofs.YtjoaiolacalemaaDoor.Fn
end
section
-- Written by printx.py, a program of this session over the kit's print: each Go function as a plain Lean function, and that the Go code computes it.


namespace Go.Proofs.YtjoaiolacalemaaDoor.Fn
open Go.RowKit Go.Proofs.YtjoaiolacalemaaDoorW.PrintWords Go.Proofs.YtjoaiolacalemaaDoorW.PrintLast Go.Proofs.YtjoaiolacalemaaDoorW.PrintMore Go.Proofs.YtjoaiolacalemaaDoor.Lf
attribute [local go_sem] max2_int min2_int max_two min_two max_three min_three max_four min_four   -- for this text's walks alone
set_option linter.unusedVariables false
set_option linter.unusedSimpArgs false

/-! ### rootcellarref15_Long: function 23 -/
def rootcellarref15_Long.j0 : Nat → Int → Int → Int → Bool → Option (Int)
 | 0, _, _, _, _ => none
 | k + 1, x0, x1, x5, x6 => if x6 = true then (some 30) else (if x5 = 2 then ((rootcellarref15_Leap.f x0).bind fun t117 => (if t117 = true then (some 29) else (some 28))) else (if x1 < 1 then (some 0) else (if x1 > 12 then (some 0) else (some 31))))
def rootcellarref15_Long.f (k : Nat) (a0 : Int) (a1 : Int) : Option (Int) := if a1 = 4 then (rootcellarref15_Long.j0 k a0 a1 a1 (a1 == 4)) else (if a1 = 6 then (rootcellarref15_Long.j0 k a0 a1 a1 (a1 == 6)) else (if a1 = 9 then (rootcellarref15_Long.j0 k a0 a1 a1 (a1 == 9)) else (rootcellarref15_Long.j0 k a0 a1 a1 (a1 == 11))))
theorem rootcellarref15_Long.mono_l : ∀ k, (∀ y0 y1 y2 y3, LeO (rootcellarref15_Long.j0 k y0 y1 y2 y3) (rootcellarref15_Long.j0 (k + 1) y0 y1 y2 y3))
 | 0 => fun _ _ _ _ r h => by simp [rootcellarref15_Long.j0] at h
 | k + 1 => by
  have ih0 := rootcellarref15_Long.mono_l k
  ·intro y0 y1 y2 y3
   unfold rootcellarref15_Long.j0
   repeat' first
   | (with_reducible exact ih0 _ _ _ _)
   | (with_reducible exact LeO.refl _)
   | (with_reducible exact LeO.none _)
   | (with_reducible refine LeO.ite ?_ ?_)
   | (with_reducible refine LeO.bind ?_ (fun _ => ?_))
   | exact ih0 _ _ _ _
   | exact LeO.none _
   | refine LeO.ite ?_ ?_
   | refine LeO.bind ?_ (fun _ => ?_)
theorem rootcellarref15_Long.mono : ∀ a0 a1 k, LeO (rootcellarref15_Long.f k a0 a1) (rootcellarref15_Long.f (k + 1) a0 a1) := by
 intro a0 a1 k
 have ih0 := rootcellarref15_Long.mono_l k
 unfold rootcellarref15_Long.f
 repeat' first
   | (with_reducible exact ih0 _ _ _ _)
   | (with_reducible exact LeO.refl _)
   | (with_reducible exact LeO.none _)
   | (with_reducible refine LeO.ite ?_ ?_)
   | (with_reducible refine LeO.bind ?_ (fun _ => ?_))
   | exact ih0 _ _ _ _
   | exact LeO.none _
   | refine LeO.ite ?_ ?_
   | refine LeO.bind ?_ (fun _ => ?_)
set_option maxHeartbeats 8000000 in
set_option maxRecDepth 100000 in
theorem rootcellarref15_Long.calls (k : Nat) (a0 : Int) (a1 : Int) (r : Int) (w : World) (h : rootcellarref15_Long.f k a0 a1 = some r) :
  Calls Tryd.prog 23 #[.int .i64 a0, .int .i64 a1] w fun e w' => e = .returned (.int .i64 r) ∧ Drawn0 w w' := by
 have H : (if a1 = 4 then (rootcellarref15_Long.j0 k a0 a1 a1 (a1 == 4)) else (if a1 = 6 then (rootcellarref15_Long.j0 k a0 a1 a1 (a1 == 6)) else (if a1 = 9 then (rootcellarref15_Long.j0 k a0 a1 a1 (a1 == 9)) else (rootcellarref15_Long.j0 k a0 a1 a1 (a1 == 11))))) = some r := h
 clear h
 have HC3 := Aside0.mk H
 clear H
 go_enter Tryd.func23, Tryd.ntmps23
 go_upto_if 6 with (fail)
 go_cut [6] (fun v6 wc => ∃ (kq : Nat) (x6_2 : Bool), v6 = .bool x6_2 ∧ Aside0 (rootcellarref15_Long.j0 kq a0 a1 a1 x6_2 = some r) ∧ Aside0 (kq ≤ k) ∧ Drawn0 w wc)
 case first =>
  have H := HC3.out
  clear HC3
  by_cases c4 : a1 = 4
  ·rw [if_pos c4] at H
   have c4b0 : (a1 == 4) = true := beq_iff_eq.mpr c4
   have c4b1 : (a1 != 4) = false := bne_eq_false_iff_eq.mpr c4
   clear c4
   (first | rw [c4b0] | (simp only [i64_w, i32_w]; rw [c4b0]) | skip)
   have H' := Aside0.mk H
   clear H
   go_wp2
   go_meet
   case rel => exact ⟨_, ((a1 == 4)), (by first | rfl | (simp; done) | (simp [*]; done)), H', ⟨by first | omega | exact Nat.le_refl _⟩, by repeat (first | exact Drawn0.refl _ | apply Drawn0.step)⟩
  ·rw [if_neg c4] at H
   have c4b0 : (a1 == 4) = false := beq_eq_false_iff_ne.mpr c4
   have c4b1 : (a1 != 4) = true := bne_iff_ne.mpr c4
   (first | rw [c4b0] | (simp only [i64_w, i32_w]; rw [c4b0]) | skip)
   by_cases c5 : a1 = 6
   ·rw [if_pos c5] at H
    have c5b0 : (a1 == 6) = true := beq_iff_eq.mpr c5
    have c5b1 : (a1 != 6) = false := bne_eq_false_iff_eq.mpr c5
    clear c5
    have H' := Aside0.mk H
    clear H
    go_wp2
    go_meet
    case rel => exact ⟨_, ((a1 == 6)), (by first | rfl | (simp; done) | (simp [*]; done)), H', ⟨by first | omega | exact Nat.le_refl _⟩, by repeat (first | exact Drawn0.refl _ | apply Drawn0.step)⟩
   ·rw [if_neg c5] at H
    have c5b0 : (a1 == 6) = false := beq_eq_false_iff_ne.mpr c5
    have c5b1 : (a1 != 6) = true := bne_iff_ne.mpr c5
    by_cases c6 : a1 = 9
    ·rw [if_pos c6] at H
     have c6b0 : (a1 == 9) = true := beq_iff_eq.mpr c6
     have c6b1 : (a1 != 9) = false := bne_eq_false_iff_eq.mpr c6
     clear c6
     have H' := Aside0.mk H
     clear H
     go_wp2
     go_meet
     case rel => exact ⟨_, ((a1 == 9)), (by first | rfl | (simp; done) | (simp [*]; done)), H', ⟨by first | omega | exact Nat.le_refl _⟩, by repeat (first | exact Drawn0.refl _ | apply Drawn0.step)⟩
    ·rw [if_neg c6] at H
     have c6b0 : (a1 == 9) = false := beq_eq_false_iff_ne.mpr c6
     have c6b1 : (a1 != 9) = true := bne_iff_ne.mpr c6
     have H' := Aside0.mk H
     clear H
     go_wp2
     go_meet
     case rel => exact ⟨_, ((a1 == 11)), (by first | rfl | (simp; done) | (simp [*]; done)), H', ⟨by first | omega | exact Nat.le_refl _⟩, by repeat (first | exact Drawn0.refl _ | apply Drawn0.step)⟩
 case rest =>
  clear HC3
  try clear c2
  try clear p2
  try clear c4
  try clear c4b0
  try clear c4b1
  try clear c5
  try clear c5b0
  try clear c5b1
  try clear c6
  try clear c6b0
  try clear c6b1
  obtain ⟨kq, x6_2, rfl, HA, HJ2, ⟨mc2, rfl⟩⟩ := hcut
  cases kq with
  | zero => exact absurd HA.out (by simp [rootcellarref15_Long.j0])
  | succ kj2 =>
   have H := HA.out
   clear HA
   simp only [rootcellarref15_Long.j0] at H
   by_cases c7 : x6_2 = true
   ·subst c7
    have H1 : (some 30) = some r := by rw [if_pos rfl] at H; exact H
    clear H
    have H := H1
    clear H1
    obtain rfl := Option.some.inj H
    go_wp2
    go_ret
    exact ⟨by first | rfl | (simp; done) | (simp [*]; done), by repeat (first | exact Drawn0.refl _ | apply Drawn0.step)⟩
   ·replace c7 := Bool.eq_false_iff.mpr c7
    subst c7
    have H1 : (if a1 = 2 then ((rootcellarref15_Leap.f a0).bind fun t117 => (if t117 = true then (some 29) else (some 28))) else (if a1 < 1 then (some 0) else (if a1 > 12 then (some 0) else (some 31)))) = some r := by rw [if_neg (show ¬ (false = true) by decide)] at H; exact H
    clear H
    have H := H1
    clear H1
    by_cases c8 : a1 = 2
    ·rw [if_pos c8] at H
     have c8b0 : (a1 == 2) = true := beq_iff_eq.mpr c8
     have c8b1 : (a1 != 2) = false := bne_eq_false_iff_eq.mpr c8
     clear c8
     replace H := Option.bind_eq_some_iff.mp H
     obtain ⟨t117, A90, H⟩ := H
     replace H : (if t117 = true then (some 29) else (some 28)) = some r := H
     have A9 := Aside0.mk A90
     clear A90
     by_cases c10 : t117 = true
     ·subst c10
      have H1 : (some 29) = some r := by rw [if_pos rfl] at H; exact H
      clear H
      have H := H1
      clear H1
      obtain rfl := Option.some.inj H
      go_wp2_with (first | ((with_reducible refine gate_callee (f := 35) rfl ?_); refine goesL_ (some 14) rfl rfl Tryd.func35 (by kernel_rfl) rfl #[.int .i64 a0] rfl (by (try simp only [List.map_toArray, List.map_cons, List.map_nil]); first | done | rfl | (simp only [List.length_drop, List.length_take]; rfl) | (rw [wrap_sum2 (by assumption)]; rfl)) ?_; (with_reducible refine (rootcellarref15_Leap.calls a0 true _ A9.out).mono ?_); rintro e w' ⟨rfl, ⟨nd, rfl⟩⟩; refine ⟨_, rfl, ?_⟩))
      go_ret
      exact ⟨by first | rfl | (simp; done) | (simp [*]; done), by repeat (first | exact Drawn0.refl _ | apply Drawn0.step)⟩
     ·replace c10 := Bool.eq_false_iff.mpr c10
      subst c10
      have H1 : (some 28) = some r := by rw [if_neg (show ¬ (false = true) by decide)] at H; exact H
      clear H
      have H := H1
      clear H1
      obtain rfl := Option.some.inj H
      go_wp2_with (first | ((with_reducible refine gate_callee (f := 35) rfl ?_); refine goesL_ (some 14) rfl rfl Tryd.func35 (by kernel_rfl) rfl #[.int .i64 a0] rfl (by (try simp only [List.map_toArray, List.map_cons, List.map_nil]); first | done | rfl | (simp only [List.length_drop, List.length_take]; rfl) | (rw [wrap_sum2 (by assumption)]; rfl)) ?_; (with_reducible refine (rootcellarref15_Leap.calls a0 false _ A9.out).mono ?_); rintro e w' ⟨rfl, ⟨nd, rfl⟩⟩; refine ⟨_, rfl, ?_⟩))
      go_ret
      exact ⟨by first | rfl | (simp; done) | (simp [*]; done), by repeat (first | exact Drawn0.refl _ | apply Drawn0.step)⟩
    ·rw [if_neg c8] at H
     have c8b0 : (a1 == 2) = false := beq_eq_false_iff_ne.mpr c8
     have c8b1 : (a1 != 2) = true := bne_iff_ne.mpr c8
     by_cases c11 : a1 < 1
     ·rw [if_pos c11] at H
      have c11b0 : decide (a1 < 1) = true := decide_eq_true c11
      clear c11
      obtain rfl := Option.some.inj H
      go_wp2
      go_ret
      exact ⟨by first | rfl | (simp; done) | (simp [*]; done), by repeat (first | exact Drawn0.refl _ | apply Drawn0.step)⟩
     ·rw [if_neg c11] at H
      have c11b0 : decide (a1 < 1) = false := decide_eq_false c11
      clear c11
      by_cases c12 : a1 > 12
      ·rw [if_pos c12] at H
       have c12b0 : decide (12 < a1) = true := decide_eq_true c12
       clear c12
       obtain rfl := Option.some.inj H
       go_wp2
       go_ret
       exact ⟨by first | rfl | (simp; done) | (simp [*]; done), by repeat (first | exact Drawn0.refl _ | apply Drawn0.step)⟩
      ·rw [if_neg c12] at H
       have c12b0 : decide (12 < a1) = false := decide_eq_false c12
       clear c12
       obtain rfl := Option.some.inj H
       go_wp2
       go_ret
       exact ⟨by first | rfl | (simp; done) | (simp [*]; done), by repeat (first | exact Drawn0.refl _ | apply Drawn0.step)⟩

end Go.Proofs.YtjoaiolacalemaaDoor.Fn
end
section
-- Written by printx.py, a program of this session over the kit's print: each Go function as a plain Lean function, and that the Go code computes it.


namespace Go.Proofs.YtjoaiolacalemaaDoor.Fn
open Go.RowKit Go.Proofs.YtjoaiolacalemaaDoorW.PrintWords Go.Proofs.YtjoaiolacalemaaDoorW.PrintLast Go.Proofs.YtjoaiolacalemaaDoorW.PrintMore Go.Proofs.YtjoaiolacalemaaDoor.Lf
attribute [local go_sem] max2_int min2_int max_two min_two max_three min_three max_four min_four   -- for this text's walks alone
set_option linter.unusedVariables false
set_option linter.unusedSimpArgs false

/-! ### rootcellarref15_days: function 24 -/
def rootcellarref15_days.f (a0 : Int) : Option (Int) := (rootcellarref15_Leap.f a0).bind fun t118 => (if t118 = true then (some 366) else (some 365))
set_option maxHeartbeats 8000000 in
set_option maxRecDepth 100000 in
theorem rootcellarref15_days.calls (a0 : Int) (r : Int) (w : World) (h : rootcellarref15_days.f a0 = some r) :
  Calls Tryd.prog 24 #[.int .i64 a0] w fun e w' => e = .returned (.int .i64 r) ∧ Drawn0 w w' := by
 have H : ((rootcellarref15_Leap.f a0).bind fun t118 => (if t118 = true then (some 366) else (some 365))) = some r := h
 clear h
 replace H := Option.bind_eq_some_iff.mp H
 obtain ⟨t118, A20, H⟩ := H
 replace H : (if t118 = true then (some 366) else (some 365)) = some r := H
 have A2 := Aside0.mk A20
 clear A20
 by_cases c3 : t118 = true
 ·subst c3
  have H1 : (some 366) = some r := by rw [if_pos rfl] at H; exact H
  clear H
  have H := H1
  clear H1
  obtain rfl := Option.some.inj H
  go_enter Tryd.func24, Tryd.ntmps24
  go_wp2_with (first | ((with_reducible refine gate_callee (f := 35) rfl ?_); refine goesL_ (some 4) rfl rfl Tryd.func35 (by kernel_rfl) rfl #[.int .i64 a0] rfl (by (try simp only [List.map_toArray, List.map_cons, List.map_nil]); first | done | rfl | (simp only [List.length_drop, List.length_take]; rfl) | (rw [wrap_sum2 (by assumption)]; rfl)) ?_; (with_reducible refine (rootcellarref15_Leap.calls a0 true _ A2.out).mono ?_); rintro e w' ⟨rfl, ⟨nd, rfl⟩⟩; refine ⟨_, rfl, ?_⟩))
  go_ret
  exact ⟨by first | rfl | (simp; done) | (simp [*]; done), by repeat (first | exact Drawn0.refl _ | apply Drawn0.step)⟩
 ·replace c3 := Bool.eq_false_iff.mpr c3
  subst c3
  have H1 : (some 365) = some r := by rw [if_neg (show ¬ (false = true) by decide)] at H; exact H
  clear H
  have H := H1
  clear H1
  obtain rfl := Option.some.inj H
  go_enter Tryd.func24, Tryd.ntmps24
  go_wp2_with (first | ((with_reducible refine gate_callee (f := 35) rfl ?_); refine goesL_ (some 4) rfl rfl Tryd.func35 (by kernel_rfl) rfl #[.int .i64 a0] rfl (by (try simp only [List.map_toArray, List.map_cons, List.map_nil]); first | done | rfl | (simp only [List.length_drop, List.length_take]; rfl) | (rw [wrap_sum2 (by assumption)]; rfl)) ?_; (with_reducible refine (rootcellarref15_Leap.calls a0 false _ A2.out).mono ?_); rintro e w' ⟨rfl, ⟨nd, rfl⟩⟩; refine ⟨_, rfl, ?_⟩))
  go_ret
  exact ⟨by first | rfl | (simp; done) | (simp [*]; done), by repeat (first | exact Drawn0.refl _ | apply Drawn0.step)⟩

end Go.Proofs.YtjoaiolacalemaaDoor.Fn
end
section
-- Written by printx.py, a program of this session over the kit's print: each Go function as a plain Lean function, and that the Go code computes it.



namespace Go.Proofs.YtjoaiolacalemaaDoor.Fn
open Go.RowKit Go.Proofs.YtjoaiolacalemaaDoorW.PrintWords Go.Proofs.YtjoaiolacalemaaDoorW.PrintLast Go.Proofs.YtjoaiolacalemaaDoorW.PrintMore Go.Proofs.YtjoaiolacalemaaDoor.Lf
attribute [local go_sem] max2_int min2_int max_two min_two max_three min_three max_four min_four   -- for this text's walks alone
set_option linter.unusedVariables false
set_option linter.unusedSimpArgs false

/-! ### rootcellarref15_Civil: function 25 -/
mutual
def rootcellarref15_Civil.j0 : Nat → Int → Bool → Option (Int × Int × Int)
 | 0, _, _ => none
 | k + 1, x0, x12 => if x12 = true then (some (0, 0, 0)) else (rootcellarref15_Civil.l0 k (Int.tmod x0 146097) (wrap64 (1970 + (wrap64 (400 * (wrap64 (Int.tdiv x0 146097)))))))
def rootcellarref15_Civil.l0 : Nat → Int → Int → Option (Int × Int × Int)
 | 0, _, _ => none
 | k + 1, x0, x5 => (rootcellarref15_days.f x5).bind fun t122 => (if x0 ≥ t122 then ((rootcellarref15_days.f x5).bind fun t123 => (rootcellarref15_Civil.l0 k (wrap64 (x0 - t123)) (wrap64 (x5 + 1)))) else (rootcellarref15_Civil.l1 k x0 x5 1))
def rootcellarref15_Civil.l1 : Nat → Int → Int → Int → Option (Int × Int × Int)
 | 0, _, _, _ => none
 | k + 1, x0, x5, x6 => (rootcellarref15_Long.f k x5 x6).bind fun t124 => (if x0 ≥ t124 then ((rootcellarref15_Long.f k x5 x6).bind fun t125 => (rootcellarref15_Civil.l1 k (wrap64 (x0 - t125)) x5 (wrap64 (x6 + 1)))) else (some (x5, x6, wrap64 (x0 + 1))))
end
def rootcellarref15_Civil.f (k : Nat) (a0 : Int) : Option (Int × Int × Int) := if a0 < 0 then (rootcellarref15_Civil.j0 k a0 true) else (rootcellarref15_Civil.j0 k a0 (decide (a0 > 281474976710656)))
theorem rootcellarref15_Civil.mono_l : ∀ k, (∀ y0 y1, LeO (rootcellarref15_Civil.j0 k y0 y1) (rootcellarref15_Civil.j0 (k + 1) y0 y1)) ∧ (∀ y0 y1, LeO (rootcellarref15_Civil.l0 k y0 y1) (rootcellarref15_Civil.l0 (k + 1) y0 y1)) ∧ (∀ y0 y1 y2, LeO (rootcellarref15_Civil.l1 k y0 y1 y2) (rootcellarref15_Civil.l1 (k + 1) y0 y1 y2))
 | 0 => ⟨fun _ _ r h => by simp [rootcellarref15_Civil.j0] at h, fun _ _ r h => by simp [rootcellarref15_Civil.l0] at h, fun _ _ _ r h => by simp [rootcellarref15_Civil.l1] at h⟩
 | k + 1 => by
  obtain ⟨ih0, ih1, ih2⟩ := rootcellarref15_Civil.mono_l k
  refine ⟨?_, ?_, ?_⟩
  ·intro y0 y1
   unfold rootcellarref15_Civil.j0
   repeat' first
   | (with_reducible exact ih0 _ _)
   | (with_reducible exact ih1 _ _)
   | (with_reducible exact ih2 _ _ _)
   | (with_reducible exact rootcellarref15_Long.mono _ _ _)
   | (with_reducible exact LeO.refl _)
   | (with_reducible exact LeO.none _)
   | (with_reducible refine LeO.ite ?_ ?_)
   | (with_reducible refine LeO.bind ?_ (fun _ => ?_))
   | exact ih0 _ _
   | exact ih1 _ _
   | exact ih2 _ _ _
   | exact rootcellarref15_Long.mono _ _ _
   | exact LeO.none _
   | refine LeO.ite ?_ ?_
   | refine LeO.bind ?_ (fun _ => ?_)
  ·intro y0 y1
   unfold rootcellarref15_Civil.l0
   repeat' first
   | (with_reducible exact ih0 _ _)
   | (with_reducible exact ih1 _ _)
   | (with_reducible exact ih2 _ _ _)
   | (with_reducible exact rootcellarref15_Long.mono _ _ _)
   | (with_reducible exact LeO.refl _)
   | (with_reducible exact LeO.none _)
   | (with_reducible refine LeO.ite ?_ ?_)
   | (with_reducible refine LeO.bind ?_ (fun _ => ?_))
   | exact ih0 _ _
   | exact ih1 _ _
   | exact ih2 _ _ _
   | exact rootcellarref15_Long.mono _ _ _
   | exact LeO.none _
   | refine LeO.ite ?_ ?_
   | refine LeO.bind ?_ (fun _ => ?_)
  ·intro y0 y1 y2
   unfold rootcellarref15_Civil.l1
   repeat' first
   | (with_reducible exact ih0 _ _)
   | (with_reducible exact ih1 _ _)
   | (with_reducible exact ih2 _ _ _)
   | (with_reducible exact rootcellarref15_Long.mono _ _ _)
   | (with_reducible exact LeO.refl _)
   | (with_reducible exact LeO.none _)
   | (with_reducible refine LeO.ite ?_ ?_)
   | (with_reducible refine LeO.bind ?_ (fun _ => ?_))
   | exact ih0 _ _
   | exact ih1 _ _
   | exact ih2 _ _ _
   | exact rootcellarref15_Long.mono _ _ _
   | exact LeO.none _
   | refine LeO.ite ?_ ?_
   | refine LeO.bind ?_ (fun _ => ?_)
theorem rootcellarref15_Civil.mono : ∀ a0 k, LeO (rootcellarref15_Civil.f k a0) (rootcellarref15_Civil.f (k + 1) a0) := by
 intro a0 k
 obtain ⟨ih0, ih1, ih2⟩ := rootcellarref15_Civil.mono_l k
 unfold rootcellarref15_Civil.f
 repeat' first
   | (with_reducible exact ih0 _ _)
   | (with_reducible exact ih1 _ _)
   | (with_reducible exact ih2 _ _ _)
   | (with_reducible exact rootcellarref15_Long.mono _ _ _)
   | (with_reducible exact LeO.refl _)
   | (with_reducible exact LeO.none _)
   | (with_reducible refine LeO.ite ?_ ?_)
   | (with_reducible refine LeO.bind ?_ (fun _ => ?_))
   | exact ih0 _ _
   | exact ih1 _ _
   | exact ih2 _ _ _
   | exact rootcellarref15_Long.mono _ _ _
   | exact LeO.none _
   | refine LeO.ite ?_ ?_
   | refine LeO.bind ?_ (fun _ => ?_)
set_option maxHeartbeats 8000000 in
set_option maxRecDepth 100000 in
theorem rootcellarref15_Civil.calls (k : Nat) (a0 : Int) (r1 : Int) (r2 : Int) (r3 : Int) (w : World) (h : rootcellarref15_Civil.f k a0 = some (r1, r2, r3)) :
  Calls Tryd.prog 25 #[.int .i64 a0] w fun e w' => e = .returned (.tuple #[.int .i64 r1, .int .i64 r2, .int .i64 r3]) ∧ Drawn0 w w' := by
 have H : (if a0 < 0 then (rootcellarref15_Civil.j0 k a0 true) else (rootcellarref15_Civil.j0 k a0 (decide (a0 > 281474976710656)))) = some (r1, r2, r3) := h
 clear h
 have HC2 := Aside0.mk H
 clear H
 go_enter Tryd.func25, Tryd.ntmps25
 go_upto_region 1 with (fail)
 go_cut [12] (fun v12 wc => ∃ (kq : Nat) (x12_1 : Bool), v12 = .bool x12_1 ∧ Aside0 (rootcellarref15_Civil.j0 kq a0 x12_1 = some (r1, r2, r3)) ∧ Aside0 (kq ≤ k) ∧ Drawn0 w wc)
 case first =>
  have H := HC2.out
  clear HC2
  by_cases c3 : a0 < 0
  ·rw [if_pos c3] at H
   have c3b0 : decide (a0 < 0) = true := decide_eq_true c3
   clear c3
   (first | rw [c3b0] | (simp only [i64_w, i32_w]; rw [c3b0]) | skip)
   have H' := Aside0.mk H
   clear H
   go_wp2
   go_meet
   case rel => exact ⟨_, (true), (by first | rfl | (simp; done) | (simp [*]; done)), H', ⟨by first | omega | exact Nat.le_refl _⟩, by repeat (first | exact Drawn0.refl _ | apply Drawn0.step)⟩
  ·rw [if_neg c3] at H
   have c3b0 : decide (a0 < 0) = false := decide_eq_false c3
   clear c3
   (first | rw [c3b0] | (simp only [i64_w, i32_w]; rw [c3b0]) | skip)
   have H' := Aside0.mk H
   clear H
   go_wp2
   go_meet
   case rel => exact ⟨_, (decide (a0 > 281474976710656)), (by first | rfl | (simp; done) | (simp [*]; done)), H', ⟨by first | omega | exact Nat.le_refl _⟩, by repeat (first | exact Drawn0.refl _ | apply Drawn0.step)⟩
 case rest =>
  clear HC2
  try clear c2
  try clear p2
  try clear c3
  try clear c3b0
  obtain ⟨kq, x12_1, rfl, HA, HJ1, ⟨mc1, rfl⟩⟩ := hcut
  cases kq with
  | zero => exact absurd HA.out (by simp [rootcellarref15_Civil.j0])
  | succ kj1 =>
   have H := HA.out
   clear HA
   simp only [rootcellarref15_Civil.j0] at H
   by_cases c4 : x12_1 = true
   ·subst c4
    have H1 : (some (0, 0, 0)) = some (r1, r2, r3) := by rw [if_pos rfl] at H; exact H
    clear H
    have H := H1
    clear H1
    simp only [Option.some.injEq, Prod.mk.injEq] at H
    obtain ⟨rfl, rfl, rfl⟩ := H
    go_wp2
    go_ret3
    exact ⟨by first | rfl | (simp; done) | (simp [*]; done), by repeat (first | exact Drawn0.refl _ | apply Drawn0.step)⟩
   ·replace c4 := Bool.eq_false_iff.mpr c4
    subst c4
    have H1 : (rootcellarref15_Civil.l0 kj1 (Int.tmod a0 146097) (wrap64 (1970 + (wrap64 (400 * (wrap64 (Int.tdiv a0 146097))))))) = some (r1, r2, r3) := by rw [if_neg (show ¬ (false = true) by decide)] at H; exact H
    clear H
    have H := H1
    clear H1
    have H' := Aside0.mk H
    clear H
    go_wp2
    go_loopg [0, 5] kj1 (fun kq v0 v5 w' => ∃ (x0_2 : Int) (x5_2 : Int), v0 = .int .i64 x0_2 ∧ v5 = .int .i64 x5_2 ∧ Aside0 (rootcellarref15_Civil.l0 kq x0_2 x5_2 = some (r1, r2, r3)) ∧ Aside0 (kq ≤ kj1) ∧ Drawn0 w w')
    case atStart => exact ⟨(Int.tmod a0 146097), (wrap64 (1970 + (wrap64 (400 * (wrap64 (Int.tdiv a0 146097)))))), (by first | rfl | (simp; done) | (simp [*]; done)), (by first | rfl | (simp; done) | (simp [*]; done)), H', ⟨Nat.le_refl _⟩, by repeat (first | exact Drawn0.refl _ | apply Drawn0.step)⟩
    case round =>
     clear H'
     try clear c1
     try clear c2
     try clear p2
     try clear c3
     try clear c3b0
     try clear c4
     try clear p2
     obtain ⟨x0_2, x5_2, rfl, rfl, HA, HK2, ⟨m2, rfl⟩⟩ := hrel
     cases gk with
     | zero => exact absurd HA.out (by simp [rootcellarref15_Civil.l0])
     | succ k2 =>
      have H := HA.out
      clear HA
      simp only [rootcellarref15_Civil.l0] at H
      replace H := Option.bind_eq_some_iff.mp H
      obtain ⟨t122, A50, H⟩ := H
      replace H : (if x0_2 ≥ t122 then ((rootcellarref15_days.f x5_2).bind fun t123 => (rootcellarref15_Civil.l0 k2 (wrap64 (x0_2 - t123)) (wrap64 (x5_2 + 1)))) else (rootcellarref15_Civil.l1 k2 x0_2 x5_2 1)) = some (r1, r2, r3) := H
      have A5 := Aside0.mk A50
      clear A50
      by_cases c6 : x0_2 ≥ t122
      ·rw [if_pos c6] at H
       have c6b0 : decide (t122 ≤ x0_2) = true := decide_eq_true c6
       clear c6
       replace H := Option.bind_eq_some_iff.mp H
       obtain ⟨t123, A70, H⟩ := H
       replace H : (rootcellarref15_Civil.l0 k2 (wrap64 (x0_2 - t123)) (wrap64 (x5_2 + 1))) = some (r1, r2, r3) := H
       have A7 := Aside0.mk A70
       clear A70
       have H' := Aside0.mk H
       clear H
       go_wp2_with (first | ((with_reducible refine gate_callee (f := 24) rfl ?_); refine goesL_ (some 21) rfl rfl Tryd.func24 (by kernel_rfl) rfl #[.int .i64 x5_2] rfl (by (try simp only [List.map_toArray, List.map_cons, List.map_nil]); first | done | rfl | (simp only [List.length_drop, List.length_take]; rfl) | (rw [wrap_sum2 (by assumption)]; rfl)) ?_; (with_reducible refine (rootcellarref15_days.calls x5_2 t122 _ A5.out).mono ?_); rintro e w' ⟨rfl, ⟨nd, rfl⟩⟩; refine ⟨_, rfl, ?_⟩) | ((with_reducible refine gate_callee (f := 24) rfl ?_); refine goesL_ (some 25) rfl rfl Tryd.func24 (by kernel_rfl) rfl #[.int .i64 x5_2] rfl (by (try simp only [List.map_toArray, List.map_cons, List.map_nil]); first | done | rfl | (simp only [List.length_drop, List.length_take]; rfl) | (rw [wrap_sum2 (by assumption)]; rfl)) ?_; (with_reducible refine (rootcellarref15_days.calls x5_2 t123 _ A7.out).mono ?_); rintro e w' ⟨rfl, ⟨nd, rfl⟩⟩; refine ⟨_, rfl, ?_⟩))
       go_roundg k2
       case measure => have := HJ1.out; have := HK2.out; omega
       case rel => exact ⟨(wrap64 (x0_2 - t123)), (wrap64 (x5_2 + 1)), (by first | rfl | (simp; done) | (simp [*]; done)), (by first | rfl | (simp; done) | (simp [*]; done)), H', ⟨by have := HJ1.out; have := HK2.out; omega⟩, by repeat (first | exact Drawn0.refl _ | apply Drawn0.step)⟩
      ·rw [if_neg c6] at H
       have c6b0 : decide (t122 ≤ x0_2) = false := decide_eq_false c6
       clear c6
       have H' := Aside0.mk H
       clear H
       go_wp2_with (first | ((with_reducible refine gate_callee (f := 24) rfl ?_); refine goesL_ (some 21) rfl rfl Tryd.func24 (by kernel_rfl) rfl #[.int .i64 x5_2] rfl (by (try simp only [List.map_toArray, List.map_cons, List.map_nil]); first | done | rfl | (simp only [List.length_drop, List.length_take]; rfl) | (rw [wrap_sum2 (by assumption)]; rfl)) ?_; (with_reducible refine (rootcellarref15_days.calls x5_2 t122 _ A5.out).mono ?_); rintro e w' ⟨rfl, ⟨nd, rfl⟩⟩; refine ⟨_, rfl, ?_⟩))
       go_loopg [0, 6] k2 (fun kq v0 v6 w' => ∃ (x0_3 : Int) (x6_3 : Int), v0 = .int .i64 x0_3 ∧ v6 = .int .i64 x6_3 ∧ Aside0 (rootcellarref15_Civil.l1 kq x0_3 x5_2 x6_3 = some (r1, r2, r3)) ∧ Aside0 (kq ≤ k2) ∧ Drawn0 w w')
       case atStart => exact ⟨(x0_2), (1), (by first | rfl | (simp; done) | (simp [*]; done)), (by first | rfl | (simp; done) | (simp [*]; done)), H', ⟨Nat.le_refl _⟩, by repeat (first | exact Drawn0.refl _ | apply Drawn0.step)⟩
       case round =>
        clear H'
        try clear c1
        try clear c2
        try clear p2
        try clear c3
        try clear c3b0
        try clear c4
        try clear c6
        try clear c6b0
        try clear p6
        try clear p2
        obtain ⟨x0_3, x6_3, rfl, rfl, HA, HK3, ⟨m3, rfl⟩⟩ := hrel
        cases gk with
        | zero => exact absurd HA.out (by simp [rootcellarref15_Civil.l1])
        | succ k3 =>
         have H := HA.out
         clear HA
         simp only [rootcellarref15_Civil.l1] at H
         replace H := Option.bind_eq_some_iff.mp H
         obtain ⟨t124, A80, H⟩ := H
         replace H : (if x0_3 ≥ t124 then ((rootcellarref15_Long.f k3 x5_2 x6_3).bind fun t125 => (rootcellarref15_Civil.l1 k3 (wrap64 (x0_3 - t125)) x5_2 (wrap64 (x6_3 + 1)))) else (some (x5_2, x6_3, wrap64 (x0_3 + 1)))) = some (r1, r2, r3) := H
         have A8 := Aside0.mk A80
         clear A80
         by_cases c9 : x0_3 ≥ t124
         ·rw [if_pos c9] at H
          have c9b0 : decide (t124 ≤ x0_3) = true := decide_eq_true c9
          clear c9
          replace H := Option.bind_eq_some_iff.mp H
          obtain ⟨t125, A100, H⟩ := H
          replace H : (rootcellarref15_Civil.l1 k3 (wrap64 (x0_3 - t125)) x5_2 (wrap64 (x6_3 + 1))) = some (r1, r2, r3) := H
          have A10 := Aside0.mk A100
          clear A100
          have H' := Aside0.mk H
          clear H
          go_wp2_with (first | ((with_reducible refine gate_callee (f := 23) rfl ?_); refine goesL_ (some 32) rfl rfl Tryd.func23 (by kernel_rfl) rfl #[.int .i64 x5_2, .int .i64 x6_3] rfl (by (try simp only [List.map_toArray, List.map_cons, List.map_nil]); first | done | rfl | (simp only [List.length_drop, List.length_take]; rfl) | (rw [wrap_sum2 (by assumption)]; rfl)) ?_; (with_reducible refine (rootcellarref15_Long.calls k3 x5_2 x6_3 t124 _ A8.out).mono ?_); rintro e w' ⟨rfl, ⟨nd, rfl⟩⟩; refine ⟨_, rfl, ?_⟩) | ((with_reducible refine gate_callee (f := 23) rfl ?_); refine goesL_ (some 37) rfl rfl Tryd.func23 (by kernel_rfl) rfl #[.int .i64 x5_2, .int .i64 x6_3] rfl (by (try simp only [List.map_toArray, List.map_cons, List.map_nil]); first | done | rfl | (simp only [List.length_drop, List.length_take]; rfl) | (rw [wrap_sum2 (by assumption)]; rfl)) ?_; (with_reducible refine (rootcellarref15_Long.calls k3 x5_2 x6_3 t125 _ A10.out).mono ?_); rintro e w' ⟨rfl, ⟨nd, rfl⟩⟩; refine ⟨_, rfl, ?_⟩))
          go_roundg k3
          case measure => have := HJ1.out; have := HK2.out; have := HK3.out; omega
          case rel => exact ⟨(wrap64 (x0_3 - t125)), (wrap64 (x6_3 + 1)), (by first | rfl | (simp; done) | (simp [*]; done)), (by first | rfl | (simp; done) | (simp [*]; done)), H', ⟨by have := HJ1.out; have := HK2.out; have := HK3.out; omega⟩, by repeat (first | exact Drawn0.refl _ | apply Drawn0.step)⟩
         ·rw [if_neg c9] at H
          have c9b0 : decide (t124 ≤ x0_3) = false := decide_eq_false c9
          clear c9
          simp only [Option.some.injEq, Prod.mk.injEq] at H
          obtain ⟨rfl, rfl, rfl⟩ := H
          go_wp2_with (first | ((with_reducible refine gate_callee (f := 23) rfl ?_); refine goesL_ (some 32) rfl rfl Tryd.func23 (by kernel_rfl) rfl #[.int .i64 x5_2, .int .i64 x6_3] rfl (by (try simp only [List.map_toArray, List.map_cons, List.map_nil]); first | done | rfl | (simp only [List.length_drop, List.length_take]; rfl) | (rw [wrap_sum2 (by assumption)]; rfl)) ?_; (with_reducible refine (rootcellarref15_Long.calls k3 x5_2 x6_3 t124 _ A8.out).mono ?_); rintro e w' ⟨rfl, ⟨nd, rfl⟩⟩; refine ⟨_, rfl, ?_⟩))
          go_ret3
          exact ⟨by first | rfl | (simp; done) | (simp [*]; done), by repeat (first | exact Drawn0.refl _ | apply Drawn0.step)⟩

end Go.Proofs.YtjoaiolacalemaaDoor.Fn
end
section
-- Written by printx.py, a program of this session over the kit's print: each Go function as a plain Lean function, and that the Go code computes it.



namespace Go.Proofs.YtjoaiolacalemaaDoor.Fn
open Go.RowKit Go.Proofs.YtjoaiolacalemaaDoorW.PrintWords Go.Proofs.YtjoaiolacalemaaDoorW.PrintLast Go.Proofs.YtjoaiolacalemaaDoorW.PrintMore Go.Proofs.YtjoaiolacalemaaDoor.Lf
attribute [local go_sem] max2_int min2_int max_two min_two max_three min_three max_four min_four   -- for this text's walks alone
set_option linter.unusedVariables false
set_option linter.unusedSimpArgs false

/-! ### rootcellarref15_Day: function 15 -/
mutual
def rootcellarref15_Day.j0 : Nat → Int → Int → Int → Bool → Option (Int × Bool)
 | 0, _, _, _, _ => none
 | k + 1, x0, x1, x2, x27 => if x27 = true then (some (0, false)) else (rootcellarref15_Day.l0 k x0 x1 x2 (wrap64 ((wrap64 (Int.tdiv (wrap64 (x0 - 1970)) 400)) * 146097)) (wrap64 (1970 + (wrap64 ((wrap64 (Int.tdiv (wrap64 (x0 - 1970)) 400)) * 400)))))
def rootcellarref15_Day.l0 : Nat → Int → Int → Int → Int → Int → Option (Int × Bool)
 | 0, _, _, _, _, _ => none
 | k + 1, x0, x1, x2, x8, x9 => if x9 < x0 then ((rootcellarref15_days.f x9).bind fun t120 => (rootcellarref15_Day.l0 k x0 x1 x2 (wrap64 (x8 + t120)) (wrap64 (x9 + 1)))) else (rootcellarref15_Day.l1 k x0 x1 x2 x8 1)
def rootcellarref15_Day.l1 : Nat → Int → Int → Int → Int → Int → Option (Int × Bool)
 | 0, _, _, _, _, _ => none
 | k + 1, x0, x1, x2, x8, x10 => if x10 < x1 then ((rootcellarref15_Long.f k x0 x10).bind fun t121 => (rootcellarref15_Day.l1 k x0 x1 x2 (wrap64 (x8 + t121)) (wrap64 (x10 + 1)))) else (if (wrap64 ((wrap64 (x8 + x2)) - 1)) > 281474976710656 then (some (0, false)) else (some (wrap64 ((wrap64 (x8 + x2)) - 1), true)))
end
def rootcellarref15_Day.f (k : Nat) (a0 : Int) (a1 : Int) (a2 : Int) : Option (Int × Bool) := if a0 < 1970 then (rootcellarref15_Day.j0 k a0 a1 a2 true) else (if a0 > 1000000000000 then (rootcellarref15_Day.j0 k a0 a1 a2 true) else (if a2 < 1 then (rootcellarref15_Day.j0 k a0 a1 a2 true) else ((rootcellarref15_Long.f k a0 a1).bind fun t119 => (rootcellarref15_Day.j0 k a0 a1 a2 (decide (a2 > t119))))))
theorem rootcellarref15_Day.mono_l : ∀ k, (∀ y0 y1 y2 y3, LeO (rootcellarref15_Day.j0 k y0 y1 y2 y3) (rootcellarref15_Day.j0 (k + 1) y0 y1 y2 y3)) ∧ (∀ y0 y1 y2 y3 y4, LeO (rootcellarref15_Day.l0 k y0 y1 y2 y3 y4) (rootcellarref15_Day.l0 (k + 1) y0 y1 y2 y3 y4)) ∧ (∀ y0 y1 y2 y3 y4, LeO (rootcellarref15_Day.l1 k y0 y1 y2 y3 y4) (rootcellarref15_Day.l1 (k + 1) y0 y1 y2 y3 y4))
 | 0 => ⟨fun _ _ _ _ r h => by simp [rootcellarref15_Day.j0] at h, fun _ _ _ _ _ r h => by simp [rootcellarref15_Day.l0] at h, fun _ _ _ _ _ r h => by simp [rootcellarref15_Day.l1] at h⟩
 | k + 1 => by
  obtain ⟨ih0, ih1, ih2⟩ := rootcellarref15_Day.mono_l k
  refine ⟨?_, ?_, ?_⟩
  ·intro y0 y1 y2 y3
   unfold rootcellarref15_Day.j0
   repeat' first
   | (with_reducible exact ih0 _ _ _ _)
   | (with_reducible exact ih1 _ _ _ _ _)
   | (with_reducible exact ih2 _ _ _ _ _)
   | (with_reducible exact rootcellarref15_Long.mono _ _ _)
   | (with_reducible exact LeO.refl _)
   | (with_reducible exact LeO.none _)
   | (with_reducible refine LeO.ite ?_ ?_)
   | (with_reducible refine LeO.bind ?_ (fun _ => ?_))
   | exact ih0 _ _ _ _
   | exact ih1 _ _ _ _ _
   | exact ih2 _ _ _ _ _
   | exact rootcellarref15_Long.mono _ _ _
   | exact LeO.none _
   | refine LeO.ite ?_ ?_
   | refine LeO.bind ?_ (fun _ => ?_)
  ·intro y0 y1 y2 y3 y4
   unfold rootcellarref15_Day.l0
   repeat' first
   | (with_reducible exact ih0 _ _ _ _)
   | (with_reducible exact ih1 _ _ _ _ _)
   | (with_reducible exact ih2 _ _ _ _ _)
   | (with_reducible exact rootcellarref15_Long.mono _ _ _)
   | (with_reducible exact LeO.refl _)
   | (with_reducible exact LeO.none _)
   | (with_reducible refine LeO.ite ?_ ?_)
   | (with_reducible refine LeO.bind ?_ (fun _ => ?_))
   | exact ih0 _ _ _ _
   | exact ih1 _ _ _ _ _
   | exact ih2 _ _ _ _ _
   | exact rootcellarref15_Long.mono _ _ _
   | exact LeO.none _
   | refine LeO.ite ?_ ?_
   | refine LeO.bind ?_ (fun _ => ?_)
  ·intro y0 y1 y2 y3 y4
   unfold rootcellarref15_Day.l1
   repeat' first
   | (with_reducible exact ih0 _ _ _ _)
   | (with_reducible exact ih1 _ _ _ _ _)
   | (with_reducible exact ih2 _ _ _ _ _)
   | (with_reducible exact rootcellarref15_Long.mono _ _ _)
   | (with_reducible exact LeO.refl _)
   | (with_reducible exact LeO.none _)
   | (with_reducible refine LeO.ite ?_ ?_)
   | (with_reducible refine LeO.bind ?_ (fun _ => ?_))
   | exact ih0 _ _ _ _
   | exact ih1 _ _ _ _ _
   | exact ih2 _ _ _ _ _
   | exact rootcellarref15_Long.mono _ _ _
   | exact LeO.none _
   | refine LeO.ite ?_ ?_
   | refine LeO.bind ?_ (fun _ => ?_)
theorem rootcellarref15_Day.mono : ∀ a0 a1 a2 k, LeO (rootcellarref15_Day.f k a0 a1 a2) (rootcellarref15_Day.f (k + 1) a0 a1 a2) := by
 intro a0 a1 a2 k
 obtain ⟨ih0, ih1, ih2⟩ := rootcellarref15_Day.mono_l k
 unfold rootcellarref15_Day.f
 repeat' first
   | (with_reducible exact ih0 _ _ _ _)
   | (with_reducible exact ih1 _ _ _ _ _)
   | (with_reducible exact ih2 _ _ _ _ _)
   | (with_reducible exact rootcellarref15_Long.mono _ _ _)
   | (with_reducible exact LeO.refl _)
   | (with_reducible exact LeO.none _)
   | (with_reducible refine LeO.ite ?_ ?_)
   | (with_reducible refine LeO.bind ?_ (fun _ => ?_))
   | exact ih0 _ _ _ _
   | exact ih1 _ _ _ _ _
   | exact ih2 _ _ _ _ _
   | exact rootcellarref15_Long.mono _ _ _
   | exact LeO.none _
   | refine LeO.ite ?_ ?_
   | refine LeO.bind ?_ (fun _ => ?_)
set_option maxHeartbeats 8000000 in
set_option maxRecDepth 100000 in
theorem rootcellarref15_Day.calls (k : Nat) (a0 : Int) (a1 : Int) (a2 : Int) (r1 : Int) (r2 : Bool) (w : World) (h : rootcellarref15_Day.f k a0 a1 a2 = some (r1, r2)) :
  Calls Tryd.prog 15 #[.int .i64 a0, .int .i64 a1, .int .i64 a2] w fun e w' => e = .returned (.tuple #[.int .i64 r1, .bool r2]) ∧ Drawn0 w w' := by
 have H : (if a0 < 1970 then (rootcellarref15_Day.j0 k a0 a1 a2 true) else (if a0 > 1000000000000 then (rootcellarref15_Day.j0 k a0 a1 a2 true) else (if a2 < 1 then (rootcellarref15_Day.j0 k a0 a1 a2 true) else ((rootcellarref15_Long.f k a0 a1).bind fun t119 => (rootcellarref15_Day.j0 k a0 a1 a2 (decide (a2 > t119))))))) = some (r1, r2) := h
 clear h
 have HC4 := Aside0.mk H
 clear H
 go_enter Tryd.func15, Tryd.ntmps15
 go_upto_region 1 with (fail)
 go_cut [27] (fun v27 wc => ∃ (kq : Nat) (x27_3 : Bool), v27 = .bool x27_3 ∧ Aside0 (rootcellarref15_Day.j0 kq a0 a1 a2 x27_3 = some (r1, r2)) ∧ Aside0 (kq ≤ k) ∧ Drawn0 w wc)
 case first =>
  have H := HC4.out
  clear HC4
  by_cases c5 : a0 < 1970
  ·rw [if_pos c5] at H
   have c5b0 : decide (a0 < 1970) = true := decide_eq_true c5
   clear c5
   (first | rw [c5b0] | (simp only [i64_w, i32_w]; rw [c5b0]) | skip)
   have H' := Aside0.mk H
   clear H
   go_wp2
   go_meet
   case rel => exact ⟨_, (true), (by first | rfl | (simp; done) | (simp [*]; done)), H', ⟨by first | omega | exact Nat.le_refl _⟩, by repeat (first | exact Drawn0.refl _ | apply Drawn0.step)⟩
  ·rw [if_neg c5] at H
   have c5b0 : decide (a0 < 1970) = false := decide_eq_false c5
   clear c5
   (first | rw [c5b0] | (simp only [i64_w, i32_w]; rw [c5b0]) | skip)
   by_cases c6 : a0 > 1000000000000
   ·rw [if_pos c6] at H
    have c6b0 : decide (1000000000000 < a0) = true := decide_eq_true c6
    clear c6
    have H' := Aside0.mk H
    clear H
    go_wp2
    go_meet
    case rel => exact ⟨_, (true), (by first | rfl | (simp; done) | (simp [*]; done)), H', ⟨by first | omega | exact Nat.le_refl _⟩, by repeat (first | exact Drawn0.refl _ | apply Drawn0.step)⟩
   ·rw [if_neg c6] at H
    have c6b0 : decide (1000000000000 < a0) = false := decide_eq_false c6
    clear c6
    by_cases c7 : a2 < 1
    ·rw [if_pos c7] at H
     have c7b0 : decide (a2 < 1) = true := decide_eq_true c7
     clear c7
     have H' := Aside0.mk H
     clear H
     go_wp2
     go_meet
     case rel => exact ⟨_, (true), (by first | rfl | (simp; done) | (simp [*]; done)), H', ⟨by first | omega | exact Nat.le_refl _⟩, by repeat (first | exact Drawn0.refl _ | apply Drawn0.step)⟩
    ·rw [if_neg c7] at H
     have c7b0 : decide (a2 < 1) = false := decide_eq_false c7
     clear c7
     replace H := Option.bind_eq_some_iff.mp H
     obtain ⟨t119, A80, H⟩ := H
     replace H : (rootcellarref15_Day.j0 k a0 a1 a2 (decide (a2 > t119))) = some (r1, r2) := H
     have A8 := Aside0.mk A80
     clear A80
     have H' := Aside0.mk H
     clear H
     go_wp2_with (first | (go_at_call 23; (with_reducible refine (rootcellarref15_Long.calls k a0 a1 t119 _ A8.out).mono ?_); rintro e w' ⟨rfl, ⟨nd, rfl⟩⟩))
     go_meet
     case rel => exact ⟨_, (decide (a2 > t119)), (by first | rfl | (simp; done) | (simp [*]; done)), H', ⟨by first | omega | exact Nat.le_refl _⟩, by repeat (first | exact Drawn0.refl _ | apply Drawn0.step)⟩
 case rest =>
  clear HC4
  try clear c1
  try clear p2
  try clear c5
  try clear c5b0
  try clear c6
  try clear c6b0
  try clear c7
  try clear c7b0
  obtain ⟨kq, x27_3, rfl, HA, HJ3, ⟨mc3, rfl⟩⟩ := hcut
  cases kq with
  | zero => exact absurd HA.out (by simp [rootcellarref15_Day.j0])
  | succ kj3 =>
   have H := HA.out
   clear HA
   simp only [rootcellarref15_Day.j0] at H
   by_cases c9 : x27_3 = true
   ·subst c9
    have H1 : (some (0, false)) = some (r1, r2) := by rw [if_pos rfl] at H; exact H
    clear H
    have H := H1
    clear H1
    simp only [Option.some.injEq, Prod.mk.injEq] at H
    obtain ⟨rfl, rfl⟩ := H
    go_wp2
    go_ret2
    exact ⟨by first | rfl | (simp; done) | (simp [*]; done), by repeat (first | exact Drawn0.refl _ | apply Drawn0.step)⟩
   ·replace c9 := Bool.eq_false_iff.mpr c9
    subst c9
    have H1 : (rootcellarref15_Day.l0 kj3 a0 a1 a2 (wrap64 ((wrap64 (Int.tdiv (wrap64 (a0 - 1970)) 400)) * 146097)) (wrap64 (1970 + (wrap64 ((wrap64 (Int.tdiv (wrap64 (a0 - 1970)) 400)) * 400))))) = some (r1, r2) := by rw [if_neg (show ¬ (false = true) by decide)] at H; exact H
    clear H
    have H := H1
    clear H1
    have H' := Aside0.mk H
    clear H
    go_wp2
    go_loopg [8, 9] kj3 (fun kq v8 v9 w' => ∃ (x8_2 : Int) (x9_2 : Int), v8 = .int .i64 x8_2 ∧ v9 = .int .i64 x9_2 ∧ Aside0 (rootcellarref15_Day.l0 kq a0 a1 a2 x8_2 x9_2 = some (r1, r2)) ∧ Aside0 (kq ≤ kj3) ∧ Drawn0 w w')
    case atStart => exact ⟨(wrap64 ((wrap64 (Int.tdiv (wrap64 (a0 - 1970)) 400)) * 146097)), (wrap64 (1970 + (wrap64 ((wrap64 (Int.tdiv (wrap64 (a0 - 1970)) 400)) * 400)))), (by first | rfl | (simp; done) | (simp [*]; done)), (by first | rfl | (simp; done) | (simp [*]; done)), H', ⟨Nat.le_refl _⟩, by repeat (first | exact Drawn0.refl _ | apply Drawn0.step)⟩
    case round =>
     clear H'
     try clear c1
     try clear p2
     try clear c3
     try clear c5
     try clear c5b0
     try clear c6
     try clear c6b0
     try clear p6
     try clear c7
     try clear c7b0
     try clear c9
     try clear p2
     obtain ⟨x8_2, x9_2, rfl, rfl, HA, HK2, ⟨m2, rfl⟩⟩ := hrel
     cases gk with
     | zero => exact absurd HA.out (by simp [rootcellarref15_Day.l0])
     | succ k2 =>
      have H := HA.out
      clear HA
      simp only [rootcellarref15_Day.l0] at H
      by_cases c10 : x9_2 < a0
      ·rw [if_pos c10] at H
       have c10b0 : decide (x9_2 < a0) = true := decide_eq_true c10
       clear c10
       replace H := Option.bind_eq_some_iff.mp H
       obtain ⟨t120, A110, H⟩ := H
       replace H : (rootcellarref15_Day.l0 k2 a0 a1 a2 (wrap64 (x8_2 + t120)) (wrap64 (x9_2 + 1))) = some (r1, r2) := H
       have A11 := Aside0.mk A110
       clear A110
       have H' := Aside0.mk H
       clear H
       go_wp2_with (first | ((with_reducible refine gate_callee (f := 24) rfl ?_); refine goesL_ (some 44) rfl rfl Tryd.func24 (by kernel_rfl) rfl #[.int .i64 x9_2] rfl (by (try simp only [List.map_toArray, List.map_cons, List.map_nil]); first | done | rfl | (simp only [List.length_drop, List.length_take]; rfl) | (rw [wrap_sum2 (by assumption)]; rfl)) ?_; (with_reducible refine (rootcellarref15_days.calls x9_2 t120 _ A11.out).mono ?_); rintro e w' ⟨rfl, ⟨nd, rfl⟩⟩; refine ⟨_, rfl, ?_⟩))
       go_roundg k2
       case measure => have := HJ3.out; have := HK2.out; omega
       case rel => exact ⟨(wrap64 (x8_2 + t120)), (wrap64 (x9_2 + 1)), (by first | rfl | (simp; done) | (simp [*]; done)), (by first | rfl | (simp; done) | (simp [*]; done)), H', ⟨by have := HJ3.out; have := HK2.out; omega⟩, by repeat (first | exact Drawn0.refl _ | apply Drawn0.step)⟩
      ·rw [if_neg c10] at H
       have c10b0 : decide (x9_2 < a0) = false := decide_eq_false c10
       clear c10
       have H' := Aside0.mk H
       clear H
       go_wp2
       go_loopg [8, 10] k2 (fun kq v8 v10 w' => ∃ (x8_3 : Int) (x10_3 : Int), v8 = .int .i64 x8_3 ∧ v10 = .int .i64 x10_3 ∧ Aside0 (rootcellarref15_Day.l1 kq a0 a1 a2 x8_3 x10_3 = some (r1, r2)) ∧ Aside0 (kq ≤ k2) ∧ Drawn0 w w')
       case atStart => exact ⟨(x8_2), (1), (by first | rfl | (simp; done) | (simp [*]; done)), (by first | rfl | (simp; done) | (simp [*]; done)), H', ⟨Nat.le_refl _⟩, by repeat (first | exact Drawn0.refl _ | apply Drawn0.step)⟩
       case round =>
        clear H'
        try clear c1
        try clear c2
        try clear p2
        try clear c3
        try clear c5
        try clear c5b0
        try clear c6
        try clear c6b0
        try clear p6
        try clear c7
        try clear c7b0
        try clear c9
        try clear c10
        try clear c10b0
        try clear p2
        try clear p6
        obtain ⟨x8_3, x10_3, rfl, rfl, HA, HK3, ⟨m3, rfl⟩⟩ := hrel
        cases gk with
        | zero => exact absurd HA.out (by simp [rootcellarref15_Day.l1])
        | succ k3 =>
         have H := HA.out
         clear HA
         simp only [rootcellarref15_Day.l1] at H
         by_cases c12 : x10_3 < a1
         ·rw [if_pos c12] at H
          have c12b0 : decide (x10_3 < a1) = true := decide_eq_true c12
          clear c12
          replace H := Option.bind_eq_some_iff.mp H
          obtain ⟨t121, A130, H⟩ := H
          replace H : (rootcellarref15_Day.l1 k3 a0 a1 a2 (wrap64 (x8_3 + t121)) (wrap64 (x10_3 + 1))) = some (r1, r2) := H
          have A13 := Aside0.mk A130
          clear A130
          have H' := Aside0.mk H
          clear H
          go_wp2_with (first | ((with_reducible refine gate_callee (f := 23) rfl ?_); refine goesL_ (some 54) rfl rfl Tryd.func23 (by kernel_rfl) rfl #[.int .i64 a0, .int .i64 x10_3] rfl (by (try simp only [List.map_toArray, List.map_cons, List.map_nil]); first | done | rfl | (simp only [List.length_drop, List.length_take]; rfl) | (rw [wrap_sum2 (by assumption)]; rfl)) ?_; (with_reducible refine (rootcellarref15_Long.calls k3 a0 x10_3 t121 _ A13.out).mono ?_); rintro e w' ⟨rfl, ⟨nd, rfl⟩⟩; refine ⟨_, rfl, ?_⟩))
          go_roundg k3
          case measure => have := HJ3.out; have := HK2.out; have := HK3.out; omega
          case rel => exact ⟨(wrap64 (x8_3 + t121)), (wrap64 (x10_3 + 1)), (by first | rfl | (simp; done) | (simp [*]; done)), (by first | rfl | (simp; done) | (simp [*]; done)), H', ⟨by have := HJ3.out; have := HK2.out; have := HK3.out; omega⟩, by repeat (first | exact Drawn0.refl _ | apply Drawn0.step)⟩
         ·rw [if_neg c12] at H
          have c12b0 : decide (x10_3 < a1) = false := decide_eq_false c12
          clear c12
          by_cases c14 : (wrap64 ((wrap64 (x8_3 + a2)) - 1)) > 281474976710656
          ·rw [if_pos c14] at H
           have c14b0 : decide (281474976710656 < (wrap64 ((wrap64 (x8_3 + a2)) - 1))) = true := decide_eq_true c14
           clear c14
           simp only [Option.some.injEq, Prod.mk.injEq] at H
           obtain ⟨rfl, rfl⟩ := H
           go_wp2
           go_ret2
           exact ⟨by first | rfl | (simp; done) | (simp [*]; done), by repeat (first | exact Drawn0.refl _ | apply Drawn0.step)⟩
          ·rw [if_neg c14] at H
           have c14b0 : decide (281474976710656 < (wrap64 ((wrap64 (x8_3 + a2)) - 1))) = false := decide_eq_false c14
           clear c14
           simp only [Option.some.injEq, Prod.mk.injEq] at H
           obtain ⟨rfl, rfl⟩ := H
           go_wp2
           go_ret2
           exact ⟨by first | rfl | (simp; done) | (simp [*]; done), by repeat (first | exact Drawn0.refl _ | apply Drawn0.step)⟩

end Go.Proofs.YtjoaiolacalemaaDoor.Fn
end
section
-- Written by printx.py, a program of this session over the kit's print: each Go function as a plain Lean function, and that the Go code computes it.


namespace Go.Proofs.YtjoaiolacalemaaDoor.Fn
open Go.RowKit Go.Proofs.YtjoaiolacalemaaDoorW.PrintWords Go.Proofs.YtjoaiolacalemaaDoorW.PrintLast Go.Proofs.YtjoaiolacalemaaDoorW.PrintMore Go.Proofs.YtjoaiolacalemaaDoor.Lf
attribute [local go_sem] max2_int min2_int max_two min_two max_three min_three max_four min_four   -- for this text's walks alone
set_option linter.unusedVariables false
set_option linter.unusedSimpArgs false

/-! ### date_Stamp: function 8 -/
def date_Stamp.f (k : Nat) (a0 : Int) : Option (ByteArray) := (date_Civil.f k (wrap64 (IntKind.u64.wrap (Int.tdiv a0 86400)))).bind fun bt101 => ((date_padded.f bt101.1 4).bind fun t104 => (if t104.size + 1 ≤ 9223372036854775807 then ((date_padded.f bt101.2.1 2).bind fun t105 => (if t104.size + 1 + t105.size ≤ 9223372036854775807 then (if t104.size + 1 + t105.size + 1 ≤ 9223372036854775807 then ((date_padded.f bt101.2.2 2).bind fun t106 => (if t104.size + 1 + t105.size + 1 + t106.size ≤ 9223372036854775807 then (if t104.size + 1 + t105.size + 1 + t106.size + 1 ≤ 9223372036854775807 then ((date_padded.f (wrap64 (Int.tdiv (wrap64 (Int.tmod a0 86400)) 3600)) 2).bind fun t107 => (if t104.size + 1 + t105.size + 1 + t106.size + 1 + t107.size ≤ 9223372036854775807 then (if t104.size + 1 + t105.size + 1 + t106.size + 1 + t107.size + 1 ≤ 9223372036854775807 then ((date_padded.f (Int.tmod (wrap64 (Int.tdiv (wrap64 (Int.tmod a0 86400)) 60)) 60) 2).bind fun t108 => (if t104.size + 1 + t105.size + 1 + t106.size + 1 + t107.size + 1 + t108.size ≤ 9223372036854775807 then (if t104.size + 1 + t105.size + 1 + t106.size + 1 + t107.size + 1 + t108.size + 1 ≤ 9223372036854775807 then ((date_padded.f (Int.tmod (wrap64 (Int.tmod a0 86400)) 60) 2).bind fun t109 => (if t104.size + 1 + t105.size + 1 + t106.size + 1 + t107.size + 1 + t108.size + 1 + t109.size ≤ 9223372036854775807 then (some ((((((((((t104 ++ (⟨#[45]⟩ : ByteArray)) ++ t105) ++ (⟨#[45]⟩ : ByteArray)) ++ t106) ++ (⟨#[32]⟩ : ByteArray)) ++ t107) ++ (⟨#[58]⟩ : ByteArray)) ++ t108) ++ (⟨#[58]⟩ : ByteArray)) ++ t109)) else (none))) else (none)) else (none))) else (none)) else (none))) else (none)) else (none))) else (none)) else (none))) else (none)))
theorem date_Stamp.mono : ∀ a0 k, LeO (date_Stamp.f k a0) (date_Stamp.f (k + 1) a0) := by
 intro a0 k
 unfold date_Stamp.f
 repeat' first
   | (with_reducible exact date_Civil.mono _ _)
   | (with_reducible exact LeO.refl _)
   | (with_reducible exact LeO.none _)
   | (with_reducible refine LeO.ite ?_ ?_)
   | (with_reducible refine LeO.bind ?_ (fun _ => ?_))
   | exact date_Civil.mono _ _
   | exact LeO.none _
   | refine LeO.ite ?_ ?_
   | refine LeO.bind ?_ (fun _ => ?_)
set_option maxHeartbeats 8000000 in
set_option maxRecDepth 100000 in
theorem date_Stamp.calls (k : Nat) (a0 : Int) (r : ByteArray) (w : World) (h : date_Stamp.f k a0 = some r) (HT : Tabs w) :
  Calls Tryd.prog 8 #[.int .u64 a0] w fun e w' => e = .returned (.string r) ∧ Below w.heap.size w w' := by
 have HB := Aside0.mk (Below.refl w.heap.size w)
 have H : ((date_Civil.f k (wrap64 (IntKind.u64.wrap (Int.tdiv a0 86400)))).bind fun bt101 => ((date_padded.f bt101.1 4).bind fun t104 => (if t104.size + 1 ≤ 9223372036854775807 then ((date_padded.f bt101.2.1 2).bind fun t105 => (if t104.size + 1 + t105.size ≤ 9223372036854775807 then (if t104.size + 1 + t105.size + 1 ≤ 9223372036854775807 then ((date_padded.f bt101.2.2 2).bind fun t106 => (if t104.size + 1 + t105.size + 1 + t106.size ≤ 9223372036854775807 then (if t104.size + 1 + t105.size + 1 + t106.size + 1 ≤ 9223372036854775807 then ((date_padded.f (wrap64 (Int.tdiv (wrap64 (Int.tmod a0 86400)) 3600)) 2).bind fun t107 => (if t104.size + 1 + t105.size + 1 + t106.size + 1 + t107.size ≤ 9223372036854775807 then (if t104.size + 1 + t105.size + 1 + t106.size + 1 + t107.size + 1 ≤ 9223372036854775807 then ((date_padded.f (Int.tmod (wrap64 (Int.tdiv (wrap64 (Int.tmod a0 86400)) 60)) 60) 2).bind fun t108 => (if t104.size + 1 + t105.size + 1 + t106.size + 1 + t107.size + 1 + t108.size ≤ 9223372036854775807 then (if t104.size + 1 + t105.size + 1 + t106.size + 1 + t107.size + 1 + t108.size + 1 ≤ 9223372036854775807 then ((date_padded.f (Int.tmod (wrap64 (Int.tmod a0 86400)) 60) 2).bind fun t109 => (if t104.size + 1 + t105.size + 1 + t106.size + 1 + t107.size + 1 + t108.size + 1 + t109.size ≤ 9223372036854775807 then (some ((((((((((t104 ++ (⟨#[45]⟩ : ByteArray)) ++ t105) ++ (⟨#[45]⟩ : ByteArray)) ++ t106) ++ (⟨#[32]⟩ : ByteArray)) ++ t107) ++ (⟨#[58]⟩ : ByteArray)) ++ t108) ++ (⟨#[58]⟩ : ByteArray)) ++ t109)) else (none))) else (none)) else (none))) else (none)) else (none))) else (none)) else (none))) else (none)) else (none))) else (none)))) = some r := h
 clear h
 replace H := Option.bind_eq_some_iff.mp H
 obtain ⟨⟨t101, t102, t103⟩, A20, H⟩ := H
 replace H : ((date_padded.f t101 4).bind fun t104 => (if t104.size + 1 ≤ 9223372036854775807 then ((date_padded.f t102 2).bind fun t105 => (if t104.size + 1 + t105.size ≤ 9223372036854775807 then (if t104.size + 1 + t105.size + 1 ≤ 9223372036854775807 then ((date_padded.f t103 2).bind fun t106 => (if t104.size + 1 + t105.size + 1 + t106.size ≤ 9223372036854775807 then (if t104.size + 1 + t105.size + 1 + t106.size + 1 ≤ 9223372036854775807 then ((date_padded.f (wrap64 (Int.tdiv (wrap64 (Int.tmod a0 86400)) 3600)) 2).bind fun t107 => (if t104.size + 1 + t105.size + 1 + t106.size + 1 + t107.size ≤ 9223372036854775807 then (if t104.size + 1 + t105.size + 1 + t106.size + 1 + t107.size + 1 ≤ 9223372036854775807 then ((date_padded.f (Int.tmod (wrap64 (Int.tdiv (wrap64 (Int.tmod a0 86400)) 60)) 60) 2).bind fun t108 => (if t104.size + 1 + t105.size + 1 + t106.size + 1 + t107.size + 1 + t108.size ≤ 9223372036854775807 then (if t104.size + 1 + t105.size + 1 + t106.size + 1 + t107.size + 1 + t108.size + 1 ≤ 9223372036854775807 then ((date_padded.f (Int.tmod (wrap64 (Int.tmod a0 86400)) 60) 2).bind fun t109 => (if t104.size + 1 + t105.size + 1 + t106.size + 1 + t107.size + 1 + t108.size + 1 + t109.size ≤ 9223372036854775807 then (some ((((((((((t104 ++ (⟨#[45]⟩ : ByteArray)) ++ t105) ++ (⟨#[45]⟩ : ByteArray)) ++ t106) ++ (⟨#[32]⟩ : ByteArray)) ++ t107) ++ (⟨#[58]⟩ : ByteArray)) ++ t108) ++ (⟨#[58]⟩ : ByteArray)) ++ t109)) else (none))) else (none)) else (none))) else (none)) else (none))) else (none)) else (none))) else (none)) else (none))) else (none))) = some r := H
 have A2 := Aside0.mk A20
 clear A20
 replace H := Option.bind_eq_some_iff.mp H
 obtain ⟨t104, A30, H⟩ := H
 replace H : (if t104.size + 1 ≤ 9223372036854775807 then ((date_padded.f t102 2).bind fun t105 => (if t104.size + 1 + t105.size ≤ 9223372036854775807 then (if t104.size + 1 + t105.size + 1 ≤ 9223372036854775807 then ((date_padded.f t103 2).bind fun t106 => (if t104.size + 1 + t105.size + 1 + t106.size ≤ 9223372036854775807 then (if t104.size + 1 + t105.size + 1 + t106.size + 1 ≤ 9223372036854775807 then ((date_padded.f (wrap64 (Int.tdiv (wrap64 (Int.tmod a0 86400)) 3600)) 2).bind fun t107 => (if t104.size + 1 + t105.size + 1 + t106.size + 1 + t107.size ≤ 9223372036854775807 then (if t104.size + 1 + t105.size + 1 + t106.size + 1 + t107.size + 1 ≤ 9223372036854775807 then ((date_padded.f (Int.tmod (wrap64 (Int.tdiv (wrap64 (Int.tmod a0 86400)) 60)) 60) 2).bind fun t108 => (if t104.size + 1 + t105.size + 1 + t106.size + 1 + t107.size + 1 + t108.size ≤ 9223372036854775807 then (if t104.size + 1 + t105.size + 1 + t106.size + 1 + t107.size + 1 + t108.size + 1 ≤ 9223372036854775807 then ((date_padded.f (Int.tmod (wrap64 (Int.tmod a0 86400)) 60) 2).bind fun t109 => (if t104.size + 1 + t105.size + 1 + t106.size + 1 + t107.size + 1 + t108.size + 1 + t109.size ≤ 9223372036854775807 then (some ((((((((((t104 ++ (⟨#[45]⟩ : ByteArray)) ++ t105) ++ (⟨#[45]⟩ : ByteArray)) ++ t106) ++ (⟨#[32]⟩ : ByteArray)) ++ t107) ++ (⟨#[58]⟩ : ByteArray)) ++ t108) ++ (⟨#[58]⟩ : ByteArray)) ++ t109)) else (none))) else (none)) else (none))) else (none)) else (none))) else (none)) else (none))) else (none)) else (none))) else (none)) = some r := H
 have A3 := Aside0.mk A30
 clear A30
 by_cases c4 : t104.size + 1 ≤ 9223372036854775807
 ·rw [if_pos c4] at H
  have c4b0 := eq_true c4
  have c4b1 : decide (t104.size + 1 ≤ 9223372036854775807) = true := decide_eq_true c4
  try have c4b2 : (9223372036854775807 < t104.size + 1) = False := eq_false (Nat.not_lt.2 c4)
  replace H := Option.bind_eq_some_iff.mp H
  obtain ⟨t105, A50, H⟩ := H
  replace H : (if t104.size + 1 + t105.size ≤ 9223372036854775807 then (if t104.size + 1 + t105.size + 1 ≤ 9223372036854775807 then ((date_padded.f t103 2).bind fun t106 => (if t104.size + 1 + t105.size + 1 + t106.size ≤ 9223372036854775807 then (if t104.size + 1 + t105.size + 1 + t106.size + 1 ≤ 9223372036854775807 then ((date_padded.f (wrap64 (Int.tdiv (wrap64 (Int.tmod a0 86400)) 3600)) 2).bind fun t107 => (if t104.size + 1 + t105.size + 1 + t106.size + 1 + t107.size ≤ 9223372036854775807 then (if t104.size + 1 + t105.size + 1 + t106.size + 1 + t107.size + 1 ≤ 9223372036854775807 then ((date_padded.f (Int.tmod (wrap64 (Int.tdiv (wrap64 (Int.tmod a0 86400)) 60)) 60) 2).bind fun t108 => (if t104.size + 1 + t105.size + 1 + t106.size + 1 + t107.size + 1 + t108.size ≤ 9223372036854775807 then (if t104.size + 1 + t105.size + 1 + t106.size + 1 + t107.size + 1 + t108.size + 1 ≤ 9223372036854775807 then ((date_padded.f (Int.tmod (wrap64 (Int.tmod a0 86400)) 60) 2).bind fun t109 => (if t104.size + 1 + t105.size + 1 + t106.size + 1 + t107.size + 1 + t108.size + 1 + t109.size ≤ 9223372036854775807 then (some ((((((((((t104 ++ (⟨#[45]⟩ : ByteArray)) ++ t105) ++ (⟨#[45]⟩ : ByteArray)) ++ t106) ++ (⟨#[32]⟩ : ByteArray)) ++ t107) ++ (⟨#[58]⟩ : ByteArray)) ++ t108) ++ (⟨#[58]⟩ : ByteArray)) ++ t109)) else (none))) else (none)) else (none))) else (none)) else (none))) else (none)) else (none))) else (none)) else (none)) = some r := H
  have A5 := Aside0.mk A50
  clear A50
  by_cases c6 : t104.size + 1 + t105.size ≤ 9223372036854775807
  ·rw [if_pos c6] at H
   have c6b0 := eq_true c6
   have c6b1 : decide (t104.size + 1 + t105.size ≤ 9223372036854775807) = true := decide_eq_true c6
   try have c6b2 : (9223372036854775807 < t104.size + 1 + t105.size) = False := eq_false (Nat.not_lt.2 c6)
   by_cases c7 : t104.size + 1 + t105.size + 1 ≤ 9223372036854775807
   ·rw [if_pos c7] at H
    have c7b0 := eq_true c7
    have c7b1 : decide (t104.size + 1 + t105.size + 1 ≤ 9223372036854775807) = true := decide_eq_true c7
    try have c7b2 : (9223372036854775807 < t104.size + 1 + t105.size + 1) = False := eq_false (Nat.not_lt.2 c7)
    replace H := Option.bind_eq_some_iff.mp H
    obtain ⟨t106, A80, H⟩ := H
    replace H : (if t104.size + 1 + t105.size + 1 + t106.size ≤ 9223372036854775807 then (if t104.size + 1 + t105.size + 1 + t106.size + 1 ≤ 9223372036854775807 then ((date_padded.f (wrap64 (Int.tdiv (wrap64 (Int.tmod a0 86400)) 3600)) 2).bind fun t107 => (if t104.size + 1 + t105.size + 1 + t106.size + 1 + t107.size ≤ 9223372036854775807 then (if t104.size + 1 + t105.size + 1 + t106.size + 1 + t107.size + 1 ≤ 9223372036854775807 then ((date_padded.f (Int.tmod (wrap64 (Int.tdiv (wrap64 (Int.tmod a0 86400)) 60)) 60) 2).bind fun t108 => (if t104.size + 1 + t105.size + 1 + t106.size + 1 + t107.size + 1 + t108.size ≤ 9223372036854775807 then (if t104.size + 1 + t105.size + 1 + t106.size + 1 + t107.size + 1 + t108.size + 1 ≤ 9223372036854775807 then ((date_padded.f (Int.tmod (wrap64 (Int.tmod a0 86400)) 60) 2).bind fun t109 => (if t104.size + 1 + t105.size + 1 + t106.size + 1 + t107.size + 1 + t108.size + 1 + t109.size ≤ 9223372036854775807 then (some ((((((((((t104 ++ (⟨#[45]⟩ : ByteArray)) ++ t105) ++ (⟨#[45]⟩ : ByteArray)) ++ t106) ++ (⟨#[32]⟩ : ByteArray)) ++ t107) ++ (⟨#[58]⟩ : ByteArray)) ++ t108) ++ (⟨#[58]⟩ : ByteArray)) ++ t109)) else (none))) else (none)) else (none))) else (none)) else (none))) else (none)) else (none)) = some r := H
    have A8 := Aside0.mk A80
    clear A80
    by_cases c9 : t104.size + 1 + t105.size + 1 + t106.size ≤ 9223372036854775807
    ·rw [if_pos c9] at H
     have c9b0 := eq_true c9
     have c9b1 : decide (t104.size + 1 + t105.size + 1 + t106.size ≤ 9223372036854775807) = true := decide_eq_true c9
     try have c9b2 : (9223372036854775807 < t104.size + 1 + t105.size + 1 + t106.size) = False := eq_false (Nat.not_lt.2 c9)
     by_cases c10 : t104.size + 1 + t105.size + 1 + t106.size + 1 ≤ 9223372036854775807
     ·rw [if_pos c10] at H
      have c10b0 := eq_true c10
      have c10b1 : decide (t104.size + 1 + t105.size + 1 + t106.size + 1 ≤ 9223372036854775807) = true := decide_eq_true c10
      try have c10b2 : (9223372036854775807 < t104.size + 1 + t105.size + 1 + t106.size + 1) = False := eq_false (Nat.not_lt.2 c10)
      replace H := Option.bind_eq_some_iff.mp H
      obtain ⟨t107, A110, H⟩ := H
      replace H : (if t104.size + 1 + t105.size + 1 + t106.size + 1 + t107.size ≤ 9223372036854775807 then (if t104.size + 1 + t105.size + 1 + t106.size + 1 + t107.size + 1 ≤ 9223372036854775807 then ((date_padded.f (Int.tmod (wrap64 (Int.tdiv (wrap64 (Int.tmod a0 86400)) 60)) 60) 2).bind fun t108 => (if t104.size + 1 + t105.size + 1 + t106.size + 1 + t107.size + 1 + t108.size ≤ 9223372036854775807 then (if t104.size + 1 + t105.size + 1 + t106.size + 1 + t107.size + 1 + t108.size + 1 ≤ 9223372036854775807 then ((date_padded.f (Int.tmod (wrap64 (Int.tmod a0 86400)) 60) 2).bind fun t109 => (if t104.size + 1 + t105.size + 1 + t106.size + 1 + t107.size + 1 + t108.size + 1 + t109.size ≤ 9223372036854775807 then (some ((((((((((t104 ++ (⟨#[45]⟩ : ByteArray)) ++ t105) ++ (⟨#[45]⟩ : ByteArray)) ++ t106) ++ (⟨#[32]⟩ : ByteArray)) ++ t107) ++ (⟨#[58]⟩ : ByteArray)) ++ t108) ++ (⟨#[58]⟩ : ByteArray)) ++ t109)) else (none))) else (none)) else (none))) else (none)) else (none)) = some r := H
      have A11 := Aside0.mk A110
      clear A110
      by_cases c12 : t104.size + 1 + t105.size + 1 + t106.size + 1 + t107.size ≤ 9223372036854775807
      ·rw [if_pos c12] at H
       have c12b0 := eq_true c12
       have c12b1 : decide (t104.size + 1 + t105.size + 1 + t106.size + 1 + t107.size ≤ 9223372036854775807) = true := decide_eq_true c12
       try have c12b2 : (9223372036854775807 < t104.size + 1 + t105.size + 1 + t106.size + 1 + t107.size) = False := eq_false (Nat.not_lt.2 c12)
       by_cases c13 : t104.size + 1 + t105.size + 1 + t106.size + 1 + t107.size + 1 ≤ 9223372036854775807
       ·rw [if_pos c13] at H
        have c13b0 := eq_true c13
        have c13b1 : decide (t104.size + 1 + t105.size + 1 + t106.size + 1 + t107.size + 1 ≤ 9223372036854775807) = true := decide_eq_true c13
        try have c13b2 : (9223372036854775807 < t104.size + 1 + t105.size + 1 + t106.size + 1 + t107.size + 1) = False := eq_false (Nat.not_lt.2 c13)
        replace H := Option.bind_eq_some_iff.mp H
        obtain ⟨t108, A140, H⟩ := H
        replace H : (if t104.size + 1 + t105.size + 1 + t106.size + 1 + t107.size + 1 + t108.size ≤ 9223372036854775807 then (if t104.size + 1 + t105.size + 1 + t106.size + 1 + t107.size + 1 + t108.size + 1 ≤ 9223372036854775807 then ((date_padded.f (Int.tmod (wrap64 (Int.tmod a0 86400)) 60) 2).bind fun t109 => (if t104.size + 1 + t105.size + 1 + t106.size + 1 + t107.size + 1 + t108.size + 1 + t109.size ≤ 9223372036854775807 then (some ((((((((((t104 ++ (⟨#[45]⟩ : ByteArray)) ++ t105) ++ (⟨#[45]⟩ : ByteArray)) ++ t106) ++ (⟨#[32]⟩ : ByteArray)) ++ t107) ++ (⟨#[58]⟩ : ByteArray)) ++ t108) ++ (⟨#[58]⟩ : ByteArray)) ++ t109)) else (none))) else (none)) else (none)) = some r := H
        have A14 := Aside0.mk A140
        clear A140
        by_cases c15 : t104.size + 1 + t105.size + 1 + t106.size + 1 + t107.size + 1 + t108.size ≤ 9223372036854775807
        ·rw [if_pos c15] at H
         have c15b0 := eq_true c15
         have c15b1 : decide (t104.size + 1 + t105.size + 1 + t106.size + 1 + t107.size + 1 + t108.size ≤ 9223372036854775807) = true := decide_eq_true c15
         try have c15b2 : (9223372036854775807 < t104.size + 1 + t105.size + 1 + t106.size + 1 + t107.size + 1 + t108.size) = False := eq_false (Nat.not_lt.2 c15)
         by_cases c16 : t104.size + 1 + t105.size + 1 + t106.size + 1 + t107.size + 1 + t108.size + 1 ≤ 9223372036854775807
         ·rw [if_pos c16] at H
          have c16b0 := eq_true c16
          have c16b1 : decide (t104.size + 1 + t105.size + 1 + t106.size + 1 + t107.size + 1 + t108.size + 1 ≤ 9223372036854775807) = true := decide_eq_true c16
          try have c16b2 : (9223372036854775807 < t104.size + 1 + t105.size + 1 + t106.size + 1 + t107.size + 1 + t108.size + 1) = False := eq_false (Nat.not_lt.2 c16)
          replace H := Option.bind_eq_some_iff.mp H
          obtain ⟨t109, A170, H⟩ := H
          replace H : (if t104.size + 1 + t105.size + 1 + t106.size + 1 + t107.size + 1 + t108.size + 1 + t109.size ≤ 9223372036854775807 then (some ((((((((((t104 ++ (⟨#[45]⟩ : ByteArray)) ++ t105) ++ (⟨#[45]⟩ : ByteArray)) ++ t106) ++ (⟨#[32]⟩ : ByteArray)) ++ t107) ++ (⟨#[58]⟩ : ByteArray)) ++ t108) ++ (⟨#[58]⟩ : ByteArray)) ++ t109)) else (none)) = some r := H
          have A17 := Aside0.mk A170
          clear A170
          by_cases c18 : t104.size + 1 + t105.size + 1 + t106.size + 1 + t107.size + 1 + t108.size + 1 + t109.size ≤ 9223372036854775807
          ·rw [if_pos c18] at H
           have c18b0 := eq_true c18
           have c18b1 : decide (t104.size + 1 + t105.size + 1 + t106.size + 1 + t107.size + 1 + t108.size + 1 + t109.size ≤ 9223372036854775807) = true := decide_eq_true c18
           try have c18b2 : (9223372036854775807 < t104.size + 1 + t105.size + 1 + t106.size + 1 + t107.size + 1 + t108.size + 1 + t109.size) = False := eq_false (Nat.not_lt.2 c18)
           obtain rfl := Option.some.inj H
           go_enter Tryd.func8, Tryd.ntmps8
           go_wp2_with (first | ((with_reducible refine gate_callee (f := 9) rfl ?_); refine goesL_ (some 11) rfl rfl Tryd.func9 (by kernel_rfl) rfl #[.int .i64 (wrap64 (IntKind.u64.wrap (Int.tdiv a0 86400)))] rfl (by (try simp only [List.map_toArray, List.map_cons, List.map_nil]); first | done | rfl | (simp only [List.length_drop, List.length_take]; rfl) | (rw [wrap_sum2 (by assumption)]; rfl)) ?_; (with_reducible refine (date_Civil.calls k (wrap64 (IntKind.u64.wrap (Int.tdiv a0 86400))) t101 t102 t103 _ A2.out).mono ?_); rintro e w' ⟨rfl, ⟨nd, rfl⟩⟩; refine ⟨_, rfl, ?_⟩) | ((with_reducible refine gate_callee (f := 18) rfl ?_); refine goesL_ (some 19) rfl rfl Tryd.func18 (by kernel_rfl) rfl #[.int .i64 t101, .int .i64 4] rfl (by (try simp only [List.map_toArray, List.map_cons, List.map_nil]); first | done | rfl | (simp only [List.length_drop, List.length_take]; rfl) | (rw [wrap_sum2 (by assumption)]; rfl)) ?_; (with_reducible refine (date_padded.calls t101 4 t104 _ A3.out (HT.below (by repeat (first | (with_reducible first | exact HB.out | apply below_alloc | apply pw_below_drewN | apply below_drew1) | exact HB.out)))).mono ?_); rintro e w19 ⟨rfl, hb⟩; refine ⟨_, rfl, ?_⟩; have n0_ := Aside0.mk (below_step (by repeat (first | (with_reducible first | exact HB.out | apply below_alloc | apply pw_below_drewN | apply below_drew1) | exact HB.out)) hb); clear HB; have HB := n0_; clear n0_; (try clear hb); (try clear hb2); (try clear hk); (try clear hi)) | ((with_reducible refine gate_callee (f := 18) rfl ?_); refine goesL_ (some 22) rfl rfl Tryd.func18 (by kernel_rfl) rfl #[.int .i64 t102, .int .i64 2] rfl (by (try simp only [List.map_toArray, List.map_cons, List.map_nil]); first | done | rfl | (simp only [List.length_drop, List.length_take]; rfl) | (rw [wrap_sum2 (by assumption)]; rfl)) ?_; (with_reducible refine (date_padded.calls t102 2 t105 _ A5.out (HT.below (by repeat (first | (with_reducible first | exact HB.out | apply below_alloc | apply pw_below_drewN | apply below_drew1) | exact HB.out)))).mono ?_); rintro e w20 ⟨rfl, hb⟩; refine ⟨_, rfl, ?_⟩; have n0_ := Aside0.mk (below_step (by repeat (first | (with_reducible first | exact HB.out | apply below_alloc | apply pw_below_drewN | apply below_drew1) | exact HB.out)) hb); clear HB; have HB := n0_; clear n0_; (try clear hb); (try clear hb2); (try clear hk); (try clear hi)) | ((with_reducible refine gate_callee (f := 18) rfl ?_); refine goesL_ (some 26) rfl rfl Tryd.func18 (by kernel_rfl) rfl #[.int .i64 t103, .int .i64 2] rfl (by (try simp only [List.map_toArray, List.map_cons, List.map_nil]); first | done | rfl | (simp only [List.length_drop, List.length_take]; rfl) | (rw [wrap_sum2 (by assumption)]; rfl)) ?_; (with_reducible refine (date_padded.calls t103 2 t106 _ A8.out (HT.below (by repeat (first | (with_reducible first | exact HB.out | apply below_alloc | apply pw_below_drewN | apply below_drew1) | exact HB.out)))).mono ?_); rintro e w21 ⟨rfl, hb⟩; refine ⟨_, rfl, ?_⟩; have n0_ := Aside0.mk (below_step (by repeat (first | (with_reducible first | exact HB.out | apply below_alloc | apply pw_below_drewN | apply below_drew1) | exact HB.out)) hb); clear HB; have HB := n0_; clear n0_; (try clear hb); (try clear hb2); (try clear hk); (try clear hi)) | ((with_reducible refine gate_callee (f := 18) rfl ?_); refine goesL_ (some 31) rfl rfl Tryd.func18 (by kernel_rfl) rfl #[.int .i64 (wrap64 (Int.tdiv (wrap64 (Int.tmod a0 86400)) 3600)), .int .i64 2] rfl (by (try simp only [List.map_toArray, List.map_cons, List.map_nil]); first | done | rfl | (simp only [List.length_drop, List.length_take]; rfl) | (rw [wrap_sum2 (by assumption)]; rfl)) ?_; (with_reducible refine (date_padded.calls (wrap64 (Int.tdiv (wrap64 (Int.tmod a0 86400)) 3600)) 2 t107 _ A11.out (HT.below (by repeat (first | (with_reducible first | exact HB.out | apply below_alloc | apply pw_below_drewN | apply below_drew1) | exact HB.out)))).mono ?_); rintro e w22 ⟨rfl, hb⟩; refine ⟨_, rfl, ?_⟩; have n0_ := Aside0.mk (below_step (by repeat (first | (with_reducible first | exact HB.out | apply below_alloc | apply pw_below_drewN | apply below_drew1) | exact HB.out)) hb); clear HB; have HB := n0_; clear n0_; (try clear hb); (try clear hb2); (try clear hk); (try clear hi)) | ((with_reducible refine gate_callee (f := 18) rfl ?_); refine goesL_ (some 37) rfl rfl Tryd.func18 (by kernel_rfl) rfl #[.int .i64 (Int.tmod (wrap64 (Int.tdiv (wrap64 (Int.tmod a0 86400)) 60)) 60), .int .i64 2] rfl (by (try simp only [List.map_toArray, List.map_cons, List.map_nil]); first | done | rfl | (simp only [List.length_drop, List.length_take]; rfl) | (rw [wrap_sum2 (by assumption)]; rfl)) ?_; (with_reducible refine (date_padded.calls (Int.tmod (wrap64 (Int.tdiv (wrap64 (Int.tmod a0 86400)) 60)) 60) 2 t108 _ A14.out (HT.below (by repeat (first | (with_reducible first | exact HB.out | apply below_alloc | apply pw_below_drewN | apply below_drew1) | exact HB.out)))).mono ?_); rintro e w23 ⟨rfl, hb⟩; refine ⟨_, rfl, ?_⟩; have n0_ := Aside0.mk (below_step (by repeat (first | (with_reducible first | exact HB.out | apply below_alloc | apply pw_below_drewN | apply below_drew1) | exact HB.out)) hb); clear HB; have HB := n0_; clear n0_; (try clear hb); (try clear hb2); (try clear hk); (try clear hi)) | ((with_reducible refine gate_callee (f := 18) rfl ?_); refine goesL_ (some 42) rfl rfl Tryd.func18 (by kernel_rfl) rfl #[.int .i64 (Int.tmod (wrap64 (Int.tmod a0 86400)) 60), .int .i64 2] rfl (by (try simp only [List.map_toArray, List.map_cons, List.map_nil]); first | done | rfl | (simp only [List.length_drop, List.length_take]; rfl) | (rw [wrap_sum2 (by assumption)]; rfl)) ?_; (with_reducible refine (date_padded.calls (Int.tmod (wrap64 (Int.tmod a0 86400)) 60) 2 t109 _ A17.out (HT.below (by repeat (first | (with_reducible first | exact HB.out | apply below_alloc | apply pw_below_drewN | apply below_drew1) | exact HB.out)))).mono ?_); rintro e w24 ⟨rfl, hb⟩; refine ⟨_, rfl, ?_⟩; have n0_ := Aside0.mk (below_step (by repeat (first | (with_reducible first | exact HB.out | apply below_alloc | apply pw_below_drewN | apply below_drew1) | exact HB.out)) hb); clear HB; have HB := n0_; clear n0_; (try clear hb); (try clear hb2); (try clear hk); (try clear hi)))
           go_ret
           exact ⟨by first | rfl | (simp [errW_none, errW_some] <;> rfl) | (simp [*, errW_none, errW_some] <;> rfl), by repeat (first | (with_reducible first | exact HB.out | apply below_alloc | apply pw_below_drewN | apply below_drew1) | exact HB.out)⟩
          ·rw [if_neg c18] at H
           exact absurd H (by simp)
         ·rw [if_neg c16] at H
          exact absurd H (by simp)
        ·rw [if_neg c15] at H
         exact absurd H (by simp)
       ·rw [if_neg c13] at H
        exact absurd H (by simp)
      ·rw [if_neg c12] at H
       exact absurd H (by simp)
     ·rw [if_neg c10] at H
      exact absurd H (by simp)
    ·rw [if_neg c9] at H
     exact absurd H (by simp)
   ·rw [if_neg c7] at H
    exact absurd H (by simp)
  ·rw [if_neg c6] at H
   exact absurd H (by simp)
 ·rw [if_neg c4] at H
  exact absurd H (by simp)


end Go.Proofs.YtjoaiolacalemaaDoor.Fn
end
section
-- Written by printx.py, a program of this session over the kit's print: each Go function as a plain Lean function, and that the Go code computes it.

namespace Go.Proofs.YtjoaiolacalemaaDoor.Fn
open Go.RowKit Go.Proofs.YtjoaiolacalemaaDoorW.PrintWords Go.Proofs.YtjoaiolacalemaaDoorW.PrintLast Go.Proofs.YtjoaiolacalemaaDoorW.PrintMore Go.Proofs.YtjoaiolacalemaaDoor.Lf
attribute [local go_sem] max2_int min2_int max_two min_two max_three min_three max_four min_four   -- for this text's walks alone
set_option linter.unusedVariables false
set_option linter.unusedSimpArgs false

/-! ### rootcellarref15_digits: function 26 -/
def rootcellarref15_digits.l0 : Nat → Int → Int → ByteArray → Option (ByteArray)
 | 0, _, _, _ => none
 | k + 1, x0, x1, x5 => if x0 > 0 then (if 0 ≤ (Int.tmod x0 10) then (if (Int.tmod x0 10) ≤ (wrap64 ((Int.tmod x0 10) + 1)) then (if (wrap64 ((Int.tmod x0 10) + 1)) ≤ 10 then (if ((⟨#[48, 49, 50, 51, 52, 53, 54, 55, 56, 57]⟩ : ByteArray).extract ((Int.tmod x0 10) : Int).toNat ((wrap64 ((Int.tmod x0 10) + 1)) : Int).toNat).size + x5.size ≤ 9223372036854775807 then (rootcellarref15_digits.l0 k (wrap64 (Int.tdiv x0 10)) x1 (((⟨#[48, 49, 50, 51, 52, 53, 54, 55, 56, 57]⟩ : ByteArray).extract ((Int.tmod x0 10) : Int).toNat ((wrap64 ((Int.tmod x0 10) + 1)) : Int).toNat) ++ x5)) else (none)) else (none)) else (none)) else (none)) else (if (x5.size : Int) < x1 then (if 0 ≤ (Int.tmod x0 10) then (if (Int.tmod x0 10) ≤ (wrap64 ((Int.tmod x0 10) + 1)) then (if (wrap64 ((Int.tmod x0 10) + 1)) ≤ 10 then (if ((⟨#[48, 49, 50, 51, 52, 53, 54, 55, 56, 57]⟩ : ByteArray).extract ((Int.tmod x0 10) : Int).toNat ((wrap64 ((Int.tmod x0 10) + 1)) : Int).toNat).size + x5.size ≤ 9223372036854775807 then (rootcellarref15_digits.l0 k (wrap64 (Int.tdiv x0 10)) x1 (((⟨#[48, 49, 50, 51, 52, 53, 54, 55, 56, 57]⟩ : ByteArray).extract ((Int.tmod x0 10) : Int).toNat ((wrap64 ((Int.tmod x0 10) + 1)) : Int).toNat) ++ x5)) else (none)) else (none)) else (none)) else (none)) else (some x5))
def rootcellarref15_digits.f (k : Nat) (a0 : Int) (a1 : Int) : Option (ByteArray) := rootcellarref15_digits.l0 k a0 a1 (⟨#[]⟩ : ByteArray)
theorem rootcellarref15_digits.mono_l : ∀ k, (∀ y0 y1 y2, LeO (rootcellarref15_digits.l0 k y0 y1 y2) (rootcellarref15_digits.l0 (k + 1) y0 y1 y2))
 | 0 => fun _ _ _ r h => by simp [rootcellarref15_digits.l0] at h
 | k + 1 => by
  have ih0 := rootcellarref15_digits.mono_l k
  ·intro y0 y1 y2
   unfold rootcellarref15_digits.l0
   repeat' first
   | (with_reducible exact ih0 _ _ _)
   | (with_reducible exact LeO.refl _)
   | (with_reducible exact LeO.none _)
   | (with_reducible refine LeO.ite ?_ ?_)
   | (with_reducible refine LeO.bind ?_ (fun _ => ?_))
   | exact ih0 _ _ _
   | exact LeO.none _
   | refine LeO.ite ?_ ?_
   | refine LeO.bind ?_ (fun _ => ?_)
theorem rootcellarref15_digits.mono : ∀ a0 a1 k, LeO (rootcellarref15_digits.f k a0 a1) (rootcellarref15_digits.f (k + 1) a0 a1) := by
 intro a0 a1 k
 have ih0 := rootcellarref15_digits.mono_l k
 unfold rootcellarref15_digits.f
 repeat' first
   | (with_reducible exact ih0 _ _ _)
   | (with_reducible exact LeO.refl _)
   | (with_reducible exact LeO.none _)
   | (with_reducible refine LeO.ite ?_ ?_)
   | (with_reducible refine LeO.bind ?_ (fun _ => ?_))
   | exact ih0 _ _ _
   | exact LeO.none _
   | refine LeO.ite ?_ ?_
   | refine LeO.bind ?_ (fun _ => ?_)
set_option maxHeartbeats 8000000 in
set_option maxRecDepth 100000 in
theorem rootcellarref15_digits.calls (k : Nat) (a0 : Int) (a1 : Int) (r : ByteArray) (w : World) (h : rootcellarref15_digits.f k a0 a1 = some r) :
  Calls Tryd.prog 26 #[.int .i64 a0, .int .i64 a1] w fun e w' => e = .returned (.string r) ∧ Drawn0 w w' := by
 have H : (rootcellarref15_digits.l0 k a0 a1 (⟨#[]⟩ : ByteArray)) = some r := h
 clear h
 have H' := Aside0.mk H
 clear H
 go_enter Tryd.func26, Tryd.ntmps26
 go_wp2
 go_loopg [0, 5] k (fun kq v0 v5 w' => ∃ (x0_1 : Int) (x5_1 : ByteArray), v0 = .int .i64 x0_1 ∧ v5 = .string x5_1 ∧ Aside0 (rootcellarref15_digits.l0 kq x0_1 a1 x5_1 = some r) ∧ Aside0 (kq ≤ k) ∧ Drawn0 w w')
 case atStart => exact ⟨(a0), ((⟨#[]⟩ : ByteArray)), (by first | rfl | (simp; done) | (simp [*]; done)), (by first | rfl | (simp; done) | (simp [*]; done)), H', ⟨Nat.le_refl _⟩, by repeat (first | exact Drawn0.refl _ | apply Drawn0.step)⟩
 case round =>
  clear H'
  try clear c2
  try clear p2
  obtain ⟨x0_1, x5_1, rfl, rfl, HA, HK1, ⟨m1, rfl⟩⟩ := hrel
  cases gk with
  | zero => exact absurd HA.out (by simp [rootcellarref15_digits.l0])
  | succ k1 =>
   have H := HA.out
   clear HA
   simp only [rootcellarref15_digits.l0] at H
   by_cases c3 : x0_1 > 0
   ·rw [if_pos c3] at H
    have c3b0 : decide (0 < x0_1) = true := decide_eq_true c3
    clear c3
    obtain ⟨ji4, hji4⟩ : ∃ j_ : Int, (Int.tmod x0_1 10) = j_ := ⟨_, rfl⟩
    replace H : (if 0 ≤ (ji4) then (if (ji4) ≤ (wrap64 ((ji4) + 1)) then (if (wrap64 ((ji4) + 1)) ≤ 10 then (if ((⟨#[48, 49, 50, 51, 52, 53, 54, 55, 56, 57]⟩ : ByteArray).extract ((ji4) : Int).toNat ((wrap64 ((ji4) + 1)) : Int).toNat).size + x5_1.size ≤ 9223372036854775807 then (rootcellarref15_digits.l0 k1 (wrap64 (Int.tdiv x0_1 10)) a1 (((⟨#[48, 49, 50, 51, 52, 53, 54, 55, 56, 57]⟩ : ByteArray).extract ((ji4) : Int).toNat ((wrap64 ((ji4) + 1)) : Int).toNat) ++ x5_1)) else (none)) else (none)) else (none)) else (none)) = some r := by first | (rw [hji4] at H; exact H) | (simp only [hji4] at H ⊢; exact H)
    by_cases c5 : 0 ≤ (ji4)
    ·rw [if_pos c5] at H
     have c5b0 := eq_true c5
     have c5b1 : decide (0 ≤ (ji4)) = true := decide_eq_true c5
     clear c5
     by_cases c6 : (ji4) ≤ (wrap64 ((ji4) + 1))
     ·rw [if_pos c6] at H
      have c6b0 := eq_true c6
      have c6b1 : decide ((ji4) ≤ (wrap64 ((ji4) + 1))) = true := decide_eq_true c6
      by_cases c7 : (wrap64 ((ji4) + 1)) ≤ 10
      ·rw [if_pos c7] at H
       have c7b0 := eq_true c7
       have c7b1 : decide ((wrap64 ((ji4) + 1)) ≤ 10) = true := decide_eq_true c7
       by_cases c8 : ((⟨#[48, 49, 50, 51, 52, 53, 54, 55, 56, 57]⟩ : ByteArray).extract ((ji4) : Int).toNat ((wrap64 ((ji4) + 1)) : Int).toNat).size + x5_1.size ≤ 9223372036854775807
       ·rw [if_pos c8] at H
        have c8b0 := eq_true c8
        have c8b1 : decide (((⟨#[48, 49, 50, 51, 52, 53, 54, 55, 56, 57]⟩ : ByteArray).extract ((ji4) : Int).toNat ((wrap64 ((ji4) + 1)) : Int).toNat).size + x5_1.size ≤ 9223372036854775807) = true := decide_eq_true c8
        try have c8b2 : (9223372036854775807 < ((⟨#[48, 49, 50, 51, 52, 53, 54, 55, 56, 57]⟩ : ByteArray).extract ((ji4) : Int).toNat ((wrap64 ((ji4) + 1)) : Int).toNat).size + x5_1.size) = False := eq_false (Nat.not_lt.2 c8)
        have H' := Aside0.mk H
        clear H
        go_wp2
        go_roundg k1
        case measure => have := HK1.out; omega
        case rel => exact ⟨(wrap64 (Int.tdiv x0_1 10)), (((⟨#[48, 49, 50, 51, 52, 53, 54, 55, 56, 57]⟩ : ByteArray).extract ((ji4) : Int).toNat ((wrap64 ((ji4) + 1)) : Int).toNat) ++ x5_1), (by first | rfl | (simp; done) | (simp [*]; done)), (by first | rfl | (simp; done) | (simp only [← hji4] <;> (first | rfl | simp)) | (simp [*]; done)), H', ⟨by have := HK1.out; omega⟩, by repeat (first | exact Drawn0.refl _ | apply Drawn0.step)⟩
       ·rw [if_neg c8] at H
        exact absurd H (by simp)
      ·rw [if_neg c7] at H
       exact absurd H (by simp)
     ·rw [if_neg c6] at H
      exact absurd H (by simp)
    ·rw [if_neg c5] at H
     exact absurd H (by simp)
   ·rw [if_neg c3] at H
    have c3b0 : decide (0 < x0_1) = false := decide_eq_false c3
    clear c3
    by_cases c9 : (x5_1.size : Int) < a1
    ·rw [if_pos c9] at H
     have c9b0 : decide ((x5_1.size : Int) < a1) = true := decide_eq_true c9
     clear c9
     obtain ⟨ji10, hji10⟩ : ∃ j_ : Int, (Int.tmod x0_1 10) = j_ := ⟨_, rfl⟩
     replace H : (if 0 ≤ (ji10) then (if (ji10) ≤ (wrap64 ((ji10) + 1)) then (if (wrap64 ((ji10) + 1)) ≤ 10 then (if ((⟨#[48, 49, 50, 51, 52, 53, 54, 55, 56, 57]⟩ : ByteArray).extract ((ji10) : Int).toNat ((wrap64 ((ji10) + 1)) : Int).toNat).size + x5_1.size ≤ 9223372036854775807 then (rootcellarref15_digits.l0 k1 (wrap64 (Int.tdiv x0_1 10)) a1 (((⟨#[48, 49, 50, 51, 52, 53, 54, 55, 56, 57]⟩ : ByteArray).extract ((ji10) : Int).toNat ((wrap64 ((ji10) + 1)) : Int).toNat) ++ x5_1)) else (none)) else (none)) else (none)) else (none)) = some r := by first | (rw [hji10] at H; exact H) | (simp only [hji10] at H ⊢; exact H)
     by_cases c11 : 0 ≤ (ji10)
     ·rw [if_pos c11] at H
      have c11b0 := eq_true c11
      have c11b1 : decide (0 ≤ (ji10)) = true := decide_eq_true c11
      clear c11
      by_cases c12 : (ji10) ≤ (wrap64 ((ji10) + 1))
      ·rw [if_pos c12] at H
       have c12b0 := eq_true c12
       have c12b1 : decide ((ji10) ≤ (wrap64 ((ji10) + 1))) = true := decide_eq_true c12
       by_cases c13 : (wrap64 ((ji10) + 1)) ≤ 10
       ·rw [if_pos c13] at H
        have c13b0 := eq_true c13
        have c13b1 : decide ((wrap64 ((ji10) + 1)) ≤ 10) = true := decide_eq_true c13
        by_cases c14 : ((⟨#[48, 49, 50, 51, 52, 53, 54, 55, 56, 57]⟩ : ByteArray).extract ((ji10) : Int).toNat ((wrap64 ((ji10) + 1)) : Int).toNat).size + x5_1.size ≤ 9223372036854775807
        ·rw [if_pos c14] at H
         have c14b0 := eq_true c14
         have c14b1 : decide (((⟨#[48, 49, 50, 51, 52, 53, 54, 55, 56, 57]⟩ : ByteArray).extract ((ji10) : Int).toNat ((wrap64 ((ji10) + 1)) : Int).toNat).size + x5_1.size ≤ 9223372036854775807) = true := decide_eq_true c14
         try have c14b2 : (9223372036854775807 < ((⟨#[48, 49, 50, 51, 52, 53, 54, 55, 56, 57]⟩ : ByteArray).extract ((ji10) : Int).toNat ((wrap64 ((ji10) + 1)) : Int).toNat).size + x5_1.size) = False := eq_false (Nat.not_lt.2 c14)
         have H' := Aside0.mk H
         clear H
         go_wp2
         go_roundg k1
         case measure => have := HK1.out; omega
         case rel => exact ⟨(wrap64 (Int.tdiv x0_1 10)), (((⟨#[48, 49, 50, 51, 52, 53, 54, 55, 56, 57]⟩ : ByteArray).extract ((ji10) : Int).toNat ((wrap64 ((ji10) + 1)) : Int).toNat) ++ x5_1), (by first | rfl | (simp; done) | (simp [*]; done)), (by first | rfl | (simp; done) | (simp only [← hji10] <;> (first | rfl | simp)) | (simp [*]; done)), H', ⟨by have := HK1.out; omega⟩, by repeat (first | exact Drawn0.refl _ | apply Drawn0.step)⟩
        ·rw [if_neg c14] at H
         exact absurd H (by simp)
       ·rw [if_neg c13] at H
        exact absurd H (by simp)
      ·rw [if_neg c12] at H
       exact absurd H (by simp)
     ·rw [if_neg c11] at H
      exact absurd H (by simp)
    ·rw [if_neg c9] at H
     have c9b0 : decide ((x5_1.size : Int) < a1) = false := decide_eq_false c9
     clear c9
     obtain rfl := Option.some.inj H
     go_wp2
     go_ret
     exact ⟨by first | rfl | (simp; done) | (simp [*]; done), by repeat (first | exact Drawn0.refl _ | apply Drawn0.step)⟩

end Go.Proofs.YtjoaiolacalemaaDoor.Fn
end
section
-- Written by printx.py, a program of this session over the kit's print: each Go function as a plain Lean function, and that the Go code computes it.



namespace Go.Proofs.YtjoaiolacalemaaDoor.Fn
open Go.RowKit Go.Proofs.YtjoaiolacalemaaDoorW.PrintWords Go.Proofs.YtjoaiolacalemaaDoorW.PrintLast Go.Proofs.YtjoaiolacalemaaDoorW.PrintMore Go.Proofs.YtjoaiolacalemaaDoor.Lf
attribute [local go_sem] max2_int min2_int max_two min_two max_three min_three max_four min_four   -- for this text's walks alone
set_option linter.unusedVariables false
set_option linter.unusedSimpArgs false

/-! ### rootcellarref15_Stamp: function 17 -/
def rootcellarref15_Stamp.f (k : Nat) (a0 : Int) : Option (ByteArray) := (rootcellarref15_Civil.f k (wrap64 (IntKind.u64.wrap (Int.tdiv a0 86400)))).bind fun bt126 => ((rootcellarref15_digits.f k bt126.1 4).bind fun t129 => (if t129.size + 1 ≤ 9223372036854775807 then ((rootcellarref15_digits.f k bt126.2.1 2).bind fun t130 => (if t129.size + 1 + t130.size ≤ 9223372036854775807 then (if t129.size + 1 + t130.size + 1 ≤ 9223372036854775807 then ((rootcellarref15_digits.f k bt126.2.2 2).bind fun t131 => (if t129.size + 1 + t130.size + 1 + t131.size ≤ 9223372036854775807 then (if t129.size + 1 + t130.size + 1 + t131.size + 1 ≤ 9223372036854775807 then ((rootcellarref15_digits.f k (wrap64 (Int.tdiv (wrap64 (Int.tmod a0 86400)) 3600)) 2).bind fun t132 => (if t129.size + 1 + t130.size + 1 + t131.size + 1 + t132.size ≤ 9223372036854775807 then (if t129.size + 1 + t130.size + 1 + t131.size + 1 + t132.size + 1 ≤ 9223372036854775807 then ((rootcellarref15_digits.f k (Int.tmod (wrap64 (Int.tdiv (wrap64 (Int.tmod a0 86400)) 60)) 60) 2).bind fun t133 => (if t129.size + 1 + t130.size + 1 + t131.size + 1 + t132.size + 1 + t133.size ≤ 9223372036854775807 then (if t129.size + 1 + t130.size + 1 + t131.size + 1 + t132.size + 1 + t133.size + 1 ≤ 9223372036854775807 then ((rootcellarref15_digits.f k (Int.tmod (wrap64 (Int.tmod a0 86400)) 60) 2).bind fun t134 => (if t129.size + 1 + t130.size + 1 + t131.size + 1 + t132.size + 1 + t133.size + 1 + t134.size ≤ 9223372036854775807 then (some ((((((((((t129 ++ (⟨#[45]⟩ : ByteArray)) ++ t130) ++ (⟨#[45]⟩ : ByteArray)) ++ t131) ++ (⟨#[32]⟩ : ByteArray)) ++ t132) ++ (⟨#[58]⟩ : ByteArray)) ++ t133) ++ (⟨#[58]⟩ : ByteArray)) ++ t134)) else (none))) else (none)) else (none))) else (none)) else (none))) else (none)) else (none))) else (none)) else (none))) else (none)))
theorem rootcellarref15_Stamp.mono : ∀ a0 k, LeO (rootcellarref15_Stamp.f k a0) (rootcellarref15_Stamp.f (k + 1) a0) := by
 intro a0 k
 unfold rootcellarref15_Stamp.f
 repeat' first
   | (with_reducible exact rootcellarref15_Civil.mono _ _)
   | (with_reducible exact rootcellarref15_digits.mono _ _ _)
   | (with_reducible exact LeO.refl _)
   | (with_reducible exact LeO.none _)
   | (with_reducible refine LeO.ite ?_ ?_)
   | (with_reducible refine LeO.bind ?_ (fun _ => ?_))
   | exact rootcellarref15_Civil.mono _ _
   | exact rootcellarref15_digits.mono _ _ _
   | exact LeO.none _
   | refine LeO.ite ?_ ?_
   | refine LeO.bind ?_ (fun _ => ?_)
set_option maxHeartbeats 8000000 in
set_option maxRecDepth 100000 in
theorem rootcellarref15_Stamp.calls (k : Nat) (a0 : Int) (r : ByteArray) (w : World) (h : rootcellarref15_Stamp.f k a0 = some r) :
  Calls Tryd.prog 17 #[.int .u64 a0] w fun e w' => e = .returned (.string r) ∧ Drawn0 w w' := by
 have H : ((rootcellarref15_Civil.f k (wrap64 (IntKind.u64.wrap (Int.tdiv a0 86400)))).bind fun bt126 => ((rootcellarref15_digits.f k bt126.1 4).bind fun t129 => (if t129.size + 1 ≤ 9223372036854775807 then ((rootcellarref15_digits.f k bt126.2.1 2).bind fun t130 => (if t129.size + 1 + t130.size ≤ 9223372036854775807 then (if t129.size + 1 + t130.size + 1 ≤ 9223372036854775807 then ((rootcellarref15_digits.f k bt126.2.2 2).bind fun t131 => (if t129.size + 1 + t130.size + 1 + t131.size ≤ 9223372036854775807 then (if t129.size + 1 + t130.size + 1 + t131.size + 1 ≤ 9223372036854775807 then ((rootcellarref15_digits.f k (wrap64 (Int.tdiv (wrap64 (Int.tmod a0 86400)) 3600)) 2).bind fun t132 => (if t129.size + 1 + t130.size + 1 + t131.size + 1 + t132.size ≤ 9223372036854775807 then (if t129.size + 1 + t130.size + 1 + t131.size + 1 + t132.size + 1 ≤ 9223372036854775807 then ((rootcellarref15_digits.f k (Int.tmod (wrap64 (Int.tdiv (wrap64 (Int.tmod a0 86400)) 60)) 60) 2).bind fun t133 => (if t129.size + 1 + t130.size + 1 + t131.size + 1 + t132.size + 1 + t133.size ≤ 9223372036854775807 then (if t129.size + 1 + t130.size + 1 + t131.size + 1 + t132.size + 1 + t133.size + 1 ≤ 9223372036854775807 then ((rootcellarref15_digits.f k (Int.tmod (wrap64 (Int.tmod a0 86400)) 60) 2).bind fun t134 => (if t129.size + 1 + t130.size + 1 + t131.size + 1 + t132.size + 1 + t133.size + 1 + t134.size ≤ 9223372036854775807 then (some ((((((((((t129 ++ (⟨#[45]⟩ : ByteArray)) ++ t130) ++ (⟨#[45]⟩ : ByteArray)) ++ t131) ++ (⟨#[32]⟩ : ByteArray)) ++ t132) ++ (⟨#[58]⟩ : ByteArray)) ++ t133) ++ (⟨#[58]⟩ : ByteArray)) ++ t134)) else (none))) else (none)) else (none))) else (none)) else (none))) else (none)) else (none))) else (none)) else (none))) else (none)))) = some r := h
 clear h
 replace H := Option.bind_eq_some_iff.mp H
 obtain ⟨⟨t126, t127, t128⟩, A20, H⟩ := H
 replace H : ((rootcellarref15_digits.f k t126 4).bind fun t129 => (if t129.size + 1 ≤ 9223372036854775807 then ((rootcellarref15_digits.f k t127 2).bind fun t130 => (if t129.size + 1 + t130.size ≤ 9223372036854775807 then (if t129.size + 1 + t130.size + 1 ≤ 9223372036854775807 then ((rootcellarref15_digits.f k t128 2).bind fun t131 => (if t129.size + 1 + t130.size + 1 + t131.size ≤ 9223372036854775807 then (if t129.size + 1 + t130.size + 1 + t131.size + 1 ≤ 9223372036854775807 then ((rootcellarref15_digits.f k (wrap64 (Int.tdiv (wrap64 (Int.tmod a0 86400)) 3600)) 2).bind fun t132 => (if t129.size + 1 + t130.size + 1 + t131.size + 1 + t132.size ≤ 9223372036854775807 then (if t129.size + 1 + t130.size + 1 + t131.size + 1 + t132.size + 1 ≤ 9223372036854775807 then ((rootcellarref15_digits.f k (Int.tmod (wrap64 (Int.tdiv (wrap64 (Int.tmod a0 86400)) 60)) 60) 2).bind fun t133 => (if t129.size + 1 + t130.size + 1 + t131.size + 1 + t132.size + 1 + t133.size ≤ 9223372036854775807 then (if t129.size + 1 + t130.size + 1 + t131.size + 1 + t132.size + 1 + t133.size + 1 ≤ 9223372036854775807 then ((rootcellarref15_digits.f k (Int.tmod (wrap64 (Int.tmod a0 86400)) 60) 2).bind fun t134 => (if t129.size + 1 + t130.size + 1 + t131.size + 1 + t132.size + 1 + t133.size + 1 + t134.size ≤ 9223372036854775807 then (some ((((((((((t129 ++ (⟨#[45]⟩ : ByteArray)) ++ t130) ++ (⟨#[45]⟩ : ByteArray)) ++ t131) ++ (⟨#[32]⟩ : ByteArray)) ++ t132) ++ (⟨#[58]⟩ : ByteArray)) ++ t133) ++ (⟨#[58]⟩ : ByteArray)) ++ t134)) else (none))) else (none)) else (none))) else (none)) else (none))) else (none)) else (none))) else (none)) else (none))) else (none))) = some r := H
 have A2 := Aside0.mk A20
 clear A20
 replace H := Option.bind_eq_some_iff.mp H
 obtain ⟨t129, A30, H⟩ := H
 replace H : (if t129.size + 1 ≤ 9223372036854775807 then ((rootcellarref15_digits.f k t127 2).bind fun t130 => (if t129.size + 1 + t130.size ≤ 9223372036854775807 then (if t129.size + 1 + t130.size + 1 ≤ 9223372036854775807 then ((rootcellarref15_digits.f k t128 2).bind fun t131 => (if t129.size + 1 + t130.size + 1 + t131.size ≤ 9223372036854775807 then (if t129.size + 1 + t130.size + 1 + t131.size + 1 ≤ 9223372036854775807 then ((rootcellarref15_digits.f k (wrap64 (Int.tdiv (wrap64 (Int.tmod a0 86400)) 3600)) 2).bind fun t132 => (if t129.size + 1 + t130.size + 1 + t131.size + 1 + t132.size ≤ 9223372036854775807 then (if t129.size + 1 + t130.size + 1 + t131.size + 1 + t132.size + 1 ≤ 9223372036854775807 then ((rootcellarref15_digits.f k (Int.tmod (wrap64 (Int.tdiv (wrap64 (Int.tmod a0 86400)) 60)) 60) 2).bind fun t133 => (if t129.size + 1 + t130.size + 1 + t131.size + 1 + t132.size + 1 + t133.size ≤ 9223372036854775807 then (if t129.size + 1 + t130.size + 1 + t131.size + 1 + t132.size + 1 + t133.size + 1 ≤ 9223372036854775807 then ((rootcellarref15_digits.f k (Int.tmod (wrap64 (Int.tmod a0 86400)) 60) 2).bind fun t134 => (if t129.size + 1 + t130.size + 1 + t131.size + 1 + t132.size + 1 + t133.size + 1 + t134.size ≤ 9223372036854775807 then (some ((((((((((t129 ++ (⟨#[45]⟩ : ByteArray)) ++ t130) ++ (⟨#[45]⟩ : ByteArray)) ++ t131) ++ (⟨#[32]⟩ : ByteArray)) ++ t132) ++ (⟨#[58]⟩ : ByteArray)) ++ t133) ++ (⟨#[58]⟩ : ByteArray)) ++ t134)) else (none))) else (none)) else (none))) else (none)) else (none))) else (none)) else (none))) else (none)) else (none))) else (none)) = some r := H
 have A3 := Aside0.mk A30
 clear A30
 by_cases c4 : t129.size + 1 ≤ 9223372036854775807
 ·rw [if_pos c4] at H
  have c4b0 := eq_true c4
  have c4b1 : decide (t129.size + 1 ≤ 9223372036854775807) = true := decide_eq_true c4
  try have c4b2 : (9223372036854775807 < t129.size + 1) = False := eq_false (Nat.not_lt.2 c4)
  replace H := Option.bind_eq_some_iff.mp H
  obtain ⟨t130, A50, H⟩ := H
  replace H : (if t129.size + 1 + t130.size ≤ 9223372036854775807 then (if t129.size + 1 + t130.size + 1 ≤ 9223372036854775807 then ((rootcellarref15_digits.f k t128 2).bind fun t131 => (if t129.size + 1 + t130.size + 1 + t131.size ≤ 9223372036854775807 then (if t129.size + 1 + t130.size + 1 + t131.size + 1 ≤ 9223372036854775807 then ((rootcellarref15_digits.f k (wrap64 (Int.tdiv (wrap64 (Int.tmod a0 86400)) 3600)) 2).bind fun t132 => (if t129.size + 1 + t130.size + 1 + t131.size + 1 + t132.size ≤ 9223372036854775807 then (if t129.size + 1 + t130.size + 1 + t131.size + 1 + t132.size + 1 ≤ 9223372036854775807 then ((rootcellarref15_digits.f k (Int.tmod (wrap64 (Int.tdiv (wrap64 (Int.tmod a0 86400)) 60)) 60) 2).bind fun t133 => (if t129.size + 1 + t130.size + 1 + t131.size + 1 + t132.size + 1 + t133.size ≤ 9223372036854775807 then (if t129.size + 1 + t130.size + 1 + t131.size + 1 + t132.size + 1 + t133.size + 1 ≤ 9223372036854775807 then ((rootcellarref15_digits.f k (Int.tmod (wrap64 (Int.tmod a0 86400)) 60) 2).bind fun t134 => (if t129.size + 1 + t130.size + 1 + t131.size + 1 + t132.size + 1 + t133.size + 1 + t134.size ≤ 9223372036854775807 then (some ((((((((((t129 ++ (⟨#[45]⟩ : ByteArray)) ++ t130) ++ (⟨#[45]⟩ : ByteArray)) ++ t131) ++ (⟨#[32]⟩ : ByteArray)) ++ t132) ++ (⟨#[58]⟩ : ByteArray)) ++ t133) ++ (⟨#[58]⟩ : ByteArray)) ++ t134)) else (none))) else (none)) else (none))) else (none)) else (none))) else (none)) else (none))) else (none)) else (none)) = some r := H
  have A5 := Aside0.mk A50
  clear A50
  by_cases c6 : t129.size + 1 + t130.size ≤ 9223372036854775807
  ·rw [if_pos c6] at H
   have c6b0 := eq_true c6
   have c6b1 : decide (t129.size + 1 + t130.size ≤ 9223372036854775807) = true := decide_eq_true c6
   try have c6b2 : (9223372036854775807 < t129.size + 1 + t130.size) = False := eq_false (Nat.not_lt.2 c6)
   by_cases c7 : t129.size + 1 + t130.size + 1 ≤ 9223372036854775807
   ·rw [if_pos c7] at H
    have c7b0 := eq_true c7
    have c7b1 : decide (t129.size + 1 + t130.size + 1 ≤ 9223372036854775807) = true := decide_eq_true c7
    try have c7b2 : (9223372036854775807 < t129.size + 1 + t130.size + 1) = False := eq_false (Nat.not_lt.2 c7)
    replace H := Option.bind_eq_some_iff.mp H
    obtain ⟨t131, A80, H⟩ := H
    replace H : (if t129.size + 1 + t130.size + 1 + t131.size ≤ 9223372036854775807 then (if t129.size + 1 + t130.size + 1 + t131.size + 1 ≤ 9223372036854775807 then ((rootcellarref15_digits.f k (wrap64 (Int.tdiv (wrap64 (Int.tmod a0 86400)) 3600)) 2).bind fun t132 => (if t129.size + 1 + t130.size + 1 + t131.size + 1 + t132.size ≤ 9223372036854775807 then (if t129.size + 1 + t130.size + 1 + t131.size + 1 + t132.size + 1 ≤ 9223372036854775807 then ((rootcellarref15_digits.f k (Int.tmod (wrap64 (Int.tdiv (wrap64 (Int.tmod a0 86400)) 60)) 60) 2).bind fun t133 => (if t129.size + 1 + t130.size + 1 + t131.size + 1 + t132.size + 1 + t133.size ≤ 9223372036854775807 then (if t129.size + 1 + t130.size + 1 + t131.size + 1 + t132.size + 1 + t133.size + 1 ≤ 9223372036854775807 then ((rootcellarref15_digits.f k (Int.tmod (wrap64 (Int.tmod a0 86400)) 60) 2).bind fun t134 => (if t129.size + 1 + t130.size + 1 + t131.size + 1 + t132.size + 1 + t133.size + 1 + t134.size ≤ 9223372036854775807 then (some ((((((((((t129 ++ (⟨#[45]⟩ : ByteArray)) ++ t130) ++ (⟨#[45]⟩ : ByteArray)) ++ t131) ++ (⟨#[32]⟩ : ByteArray)) ++ t132) ++ (⟨#[58]⟩ : ByteArray)) ++ t133) ++ (⟨#[58]⟩ : ByteArray)) ++ t134)) else (none))) else (none)) else (none))) else (none)) else (none))) else (none)) else (none)) = some r := H
    have A8 := Aside0.mk A80
    clear A80
    by_cases c9 : t129.size + 1 + t130.size + 1 + t131.size ≤ 9223372036854775807
    ·rw [if_pos c9] at H
     have c9b0 := eq_true c9
     have c9b1 : decide (t129.size + 1 + t130.size + 1 + t131.size ≤ 9223372036854775807) = true := decide_eq_true c9
     try have c9b2 : (9223372036854775807 < t129.size + 1 + t130.size + 1 + t131.size) = False := eq_false (Nat.not_lt.2 c9)
     by_cases c10 : t129.size + 1 + t130.size + 1 + t131.size + 1 ≤ 9223372036854775807
     ·rw [if_pos c10] at H
      have c10b0 := eq_true c10
      have c10b1 : decide (t129.size + 1 + t130.size + 1 + t131.size + 1 ≤ 9223372036854775807) = true := decide_eq_true c10
      try have c10b2 : (9223372036854775807 < t129.size + 1 + t130.size + 1 + t131.size + 1) = False := eq_false (Nat.not_lt.2 c10)
      replace H := Option.bind_eq_some_iff.mp H
      obtain ⟨t132, A110, H⟩ := H
      replace H : (if t129.size + 1 + t130.size + 1 + t131.size + 1 + t132.size ≤ 9223372036854775807 then (if t129.size + 1 + t130.size + 1 + t131.size + 1 + t132.size + 1 ≤ 9223372036854775807 then ((rootcellarref15_digits.f k (Int.tmod (wrap64 (Int.tdiv (wrap64 (Int.tmod a0 86400)) 60)) 60) 2).bind fun t133 => (if t129.size + 1 + t130.size + 1 + t131.size + 1 + t132.size + 1 + t133.size ≤ 9223372036854775807 then (if t129.size + 1 + t130.size + 1 + t131.size + 1 + t132.size + 1 + t133.size + 1 ≤ 9223372036854775807 then ((rootcellarref15_digits.f k (Int.tmod (wrap64 (Int.tmod a0 86400)) 60) 2).bind fun t134 => (if t129.size + 1 + t130.size + 1 + t131.size + 1 + t132.size + 1 + t133.size + 1 + t134.size ≤ 9223372036854775807 then (some ((((((((((t129 ++ (⟨#[45]⟩ : ByteArray)) ++ t130) ++ (⟨#[45]⟩ : ByteArray)) ++ t131) ++ (⟨#[32]⟩ : ByteArray)) ++ t132) ++ (⟨#[58]⟩ : ByteArray)) ++ t133) ++ (⟨#[58]⟩ : ByteArray)) ++ t134)) else (none))) else (none)) else (none))) else (none)) else (none)) = some r := H
      have A11 := Aside0.mk A110
      clear A110
      by_cases c12 : t129.size + 1 + t130.size + 1 + t131.size + 1 + t132.size ≤ 9223372036854775807
      ·rw [if_pos c12] at H
       have c12b0 := eq_true c12
       have c12b1 : decide (t129.size + 1 + t130.size + 1 + t131.size + 1 + t132.size ≤ 9223372036854775807) = true := decide_eq_true c12
       try have c12b2 : (9223372036854775807 < t129.size + 1 + t130.size + 1 + t131.size + 1 + t132.size) = False := eq_false (Nat.not_lt.2 c12)
       by_cases c13 : t129.size + 1 + t130.size + 1 + t131.size + 1 + t132.size + 1 ≤ 9223372036854775807
       ·rw [if_pos c13] at H
        have c13b0 := eq_true c13
        have c13b1 : decide (t129.size + 1 + t130.size + 1 + t131.size + 1 + t132.size + 1 ≤ 9223372036854775807) = true := decide_eq_true c13
        try have c13b2 : (9223372036854775807 < t129.size + 1 + t130.size + 1 + t131.size + 1 + t132.size + 1) = False := eq_false (Nat.not_lt.2 c13)
        replace H := Option.bind_eq_some_iff.mp H
        obtain ⟨t133, A140, H⟩ := H
        replace H : (if t129.size + 1 + t130.size + 1 + t131.size + 1 + t132.size + 1 + t133.size ≤ 9223372036854775807 then (if t129.size + 1 + t130.size + 1 + t131.size + 1 + t132.size + 1 + t133.size + 1 ≤ 9223372036854775807 then ((rootcellarref15_digits.f k (Int.tmod (wrap64 (Int.tmod a0 86400)) 60) 2).bind fun t134 => (if t129.size + 1 + t130.size + 1 + t131.size + 1 + t132.size + 1 + t133.size + 1 + t134.size ≤ 9223372036854775807 then (some ((((((((((t129 ++ (⟨#[45]⟩ : ByteArray)) ++ t130) ++ (⟨#[45]⟩ : ByteArray)) ++ t131) ++ (⟨#[32]⟩ : ByteArray)) ++ t132) ++ (⟨#[58]⟩ : ByteArray)) ++ t133) ++ (⟨#[58]⟩ : ByteArray)) ++ t134)) else (none))) else (none)) else (none)) = some r := H
        have A14 := Aside0.mk A140
        clear A140
        by_cases c15 : t129.size + 1 + t130.size + 1 + t131.size + 1 + t132.size + 1 + t133.size ≤ 9223372036854775807
        ·rw [if_pos c15] at H
         have c15b0 := eq_true c15
         have c15b1 : decide (t129.size + 1 + t130.size + 1 + t131.size + 1 + t132.size + 1 + t133.size ≤ 9223372036854775807) = true := decide_eq_true c15
         try have c15b2 : (9223372036854775807 < t129.size + 1 + t130.size + 1 + t131.size + 1 + t132.size + 1 + t133.size) = False := eq_false (Nat.not_lt.2 c15)
         by_cases c16 : t129.size + 1 + t130.size + 1 + t131.size + 1 + t132.size + 1 + t133.size + 1 ≤ 9223372036854775807
         ·rw [if_pos c16] at H
          have c16b0 := eq_true c16
          have c16b1 : decide (t129.size + 1 + t130.size + 1 + t131.size + 1 + t132.size + 1 + t133.size + 1 ≤ 9223372036854775807) = true := decide_eq_true c16
          try have c16b2 : (9223372036854775807 < t129.size + 1 + t130.size + 1 + t131.size + 1 + t132.size + 1 + t133.size + 1) = False := eq_false (Nat.not_lt.2 c16)
          replace H := Option.bind_eq_some_iff.mp H
          obtain ⟨t134, A170, H⟩ := H
          replace H : (if t129.size + 1 + t130.size + 1 + t131.size + 1 + t132.size + 1 + t133.size + 1 + t134.size ≤ 9223372036854775807 then (some ((((((((((t129 ++ (⟨#[45]⟩ : ByteArray)) ++ t130) ++ (⟨#[45]⟩ : ByteArray)) ++ t131) ++ (⟨#[32]⟩ : ByteArray)) ++ t132) ++ (⟨#[58]⟩ : ByteArray)) ++ t133) ++ (⟨#[58]⟩ : ByteArray)) ++ t134)) else (none)) = some r := H
          have A17 := Aside0.mk A170
          clear A170
          by_cases c18 : t129.size + 1 + t130.size + 1 + t131.size + 1 + t132.size + 1 + t133.size + 1 + t134.size ≤ 9223372036854775807
          ·rw [if_pos c18] at H
           have c18b0 := eq_true c18
           have c18b1 : decide (t129.size + 1 + t130.size + 1 + t131.size + 1 + t132.size + 1 + t133.size + 1 + t134.size ≤ 9223372036854775807) = true := decide_eq_true c18
           try have c18b2 : (9223372036854775807 < t129.size + 1 + t130.size + 1 + t131.size + 1 + t132.size + 1 + t133.size + 1 + t134.size) = False := eq_false (Nat.not_lt.2 c18)
           obtain rfl := Option.some.inj H
           go_enter Tryd.func17, Tryd.ntmps17
           go_wp2_with (first | ((with_reducible refine gate_callee (f := 25) rfl ?_); refine goesL_ (some 16) rfl rfl Tryd.func25 (by kernel_rfl) rfl #[.int .i64 (wrap64 (IntKind.u64.wrap (Int.tdiv a0 86400)))] rfl (by (try simp only [List.map_toArray, List.map_cons, List.map_nil]); first | done | rfl | (simp only [List.length_drop, List.length_take]; rfl) | (rw [wrap_sum2 (by assumption)]; rfl)) ?_; (with_reducible refine (rootcellarref15_Civil.calls k (wrap64 (IntKind.u64.wrap (Int.tdiv a0 86400))) t126 t127 t128 _ A2.out).mono ?_); rintro e w' ⟨rfl, ⟨nd, rfl⟩⟩; refine ⟨_, rfl, ?_⟩) | ((with_reducible refine gate_callee (f := 26) rfl ?_); refine goesL_ (some 21) rfl rfl Tryd.func26 (by kernel_rfl) rfl #[.int .i64 t126, .int .i64 4] rfl (by (try simp only [List.map_toArray, List.map_cons, List.map_nil]); first | done | rfl | (simp only [List.length_drop, List.length_take]; rfl) | (rw [wrap_sum2 (by assumption)]; rfl)) ?_; (with_reducible refine (rootcellarref15_digits.calls k t126 4 t129 _ A3.out).mono ?_); rintro e w' ⟨rfl, ⟨nd, rfl⟩⟩; refine ⟨_, rfl, ?_⟩) | ((with_reducible refine gate_callee (f := 26) rfl ?_); refine goesL_ (some 24) rfl rfl Tryd.func26 (by kernel_rfl) rfl #[.int .i64 t127, .int .i64 2] rfl (by (try simp only [List.map_toArray, List.map_cons, List.map_nil]); first | done | rfl | (simp only [List.length_drop, List.length_take]; rfl) | (rw [wrap_sum2 (by assumption)]; rfl)) ?_; (with_reducible refine (rootcellarref15_digits.calls k t127 2 t130 _ A5.out).mono ?_); rintro e w' ⟨rfl, ⟨nd, rfl⟩⟩; refine ⟨_, rfl, ?_⟩) | ((with_reducible refine gate_callee (f := 26) rfl ?_); refine goesL_ (some 28) rfl rfl Tryd.func26 (by kernel_rfl) rfl #[.int .i64 t128, .int .i64 2] rfl (by (try simp only [List.map_toArray, List.map_cons, List.map_nil]); first | done | rfl | (simp only [List.length_drop, List.length_take]; rfl) | (rw [wrap_sum2 (by assumption)]; rfl)) ?_; (with_reducible refine (rootcellarref15_digits.calls k t128 2 t131 _ A8.out).mono ?_); rintro e w' ⟨rfl, ⟨nd, rfl⟩⟩; refine ⟨_, rfl, ?_⟩) | ((with_reducible refine gate_callee (f := 26) rfl ?_); refine goesL_ (some 33) rfl rfl Tryd.func26 (by kernel_rfl) rfl #[.int .i64 (wrap64 (Int.tdiv (wrap64 (Int.tmod a0 86400)) 3600)), .int .i64 2] rfl (by (try simp only [List.map_toArray, List.map_cons, List.map_nil]); first | done | rfl | (simp only [List.length_drop, List.length_take]; rfl) | (rw [wrap_sum2 (by assumption)]; rfl)) ?_; (with_reducible refine (rootcellarref15_digits.calls k (wrap64 (Int.tdiv (wrap64 (Int.tmod a0 86400)) 3600)) 2 t132 _ A11.out).mono ?_); rintro e w' ⟨rfl, ⟨nd, rfl⟩⟩; refine ⟨_, rfl, ?_⟩) | ((with_reducible refine gate_callee (f := 26) rfl ?_); refine goesL_ (some 39) rfl rfl Tryd.func26 (by kernel_rfl) rfl #[.int .i64 (Int.tmod (wrap64 (Int.tdiv (wrap64 (Int.tmod a0 86400)) 60)) 60), .int .i64 2] rfl (by (try simp only [List.map_toArray, List.map_cons, List.map_nil]); first | done | rfl | (simp only [List.length_drop, List.length_take]; rfl) | (rw [wrap_sum2 (by assumption)]; rfl)) ?_; (with_reducible refine (rootcellarref15_digits.calls k (Int.tmod (wrap64 (Int.tdiv (wrap64 (Int.tmod a0 86400)) 60)) 60) 2 t133 _ A14.out).mono ?_); rintro e w' ⟨rfl, ⟨nd, rfl⟩⟩; refine ⟨_, rfl, ?_⟩) | ((with_reducible refine gate_callee (f := 26) rfl ?_); refine goesL_ (some 44) rfl rfl Tryd.func26 (by kernel_rfl) rfl #[.int .i64 (Int.tmod (wrap64 (Int.tmod a0 86400)) 60), .int .i64 2] rfl (by (try simp only [List.map_toArray, List.map_cons, List.map_nil]); first | done | rfl | (simp only [List.length_drop, List.length_take]; rfl) | (rw [wrap_sum2 (by assumption)]; rfl)) ?_; (with_reducible refine (rootcellarref15_digits.calls k (Int.tmod (wrap64 (Int.tmod a0 86400)) 60) 2 t134 _ A17.out).mono ?_); rintro e w' ⟨rfl, ⟨nd, rfl⟩⟩; refine ⟨_, rfl, ?_⟩))
           go_ret
           exact ⟨by first | rfl | (simp; done) | (simp [*]; done), by repeat (first | exact Drawn0.refl _ | apply Drawn0.step)⟩
          ·rw [if_neg c18] at H
           exact absurd H (by simp)
         ·rw [if_neg c16] at H
          exact absurd H (by simp)
        ·rw [if_neg c15] at H
         exact absurd H (by simp)
       ·rw [if_neg c13] at H
        exact absurd H (by simp)
      ·rw [if_neg c12] at H
       exact absurd H (by simp)
     ·rw [if_neg c10] at H
      exact absurd H (by simp)
    ·rw [if_neg c9] at H
     exact absurd H (by simp)
   ·rw [if_neg c7] at H
    exact absurd H (by simp)
  ·rw [if_neg c6] at H
   exact absurd H (by simp)
 ·rw [if_neg c4] at H
  exact absurd H (by simp)

end Go.Proofs.YtjoaiolacalemaaDoor.Fn
end
section
-- Written by printx.py, a program of this session over the kit's print: each Go function as a plain Lean function, and that the Go code computes it.




namespace Go.Proofs.YtjoaiolacalemaaDoor.Fn
open Go.RowKit Go.Proofs.YtjoaiolacalemaaDoorW.PrintWords Go.Proofs.YtjoaiolacalemaaDoorW.PrintLast Go.Proofs.YtjoaiolacalemaaDoorW.PrintMore Go.Proofs.YtjoaiolacalemaaDoor.Lf
attribute [local go_sem] max2_int min2_int max_two min_two max_three min_three max_four min_four   -- for this text's walks alone
set_option linter.unusedVariables false
set_option linter.unusedSimpArgs false

/-! ### rootcellarlaw15_shown: function 5 -/
def rootcellarlaw15_shown.f (k : Nat)  : Option (Bool) := (date_Civil.f k 11016).bind fun bt111 => ((date_Day.f k 2000 2 30).bind fun bt114 => (if bt111.1 = 2000 then (if bt111.2.1 = 2 then (if bt111.2.2 = 29 then (if bt114.2 = true then (some false) else ((date_Stamp.f k 951868799).bind fun t116 => (some (t116.toList == ([50, 48, 48, 48, 45, 48, 50, 45, 50, 57, 32, 50, 51, 58, 53, 57, 58, 53, 57] : List UInt8))))) else (some false)) else (some false)) else (some false)))
theorem rootcellarlaw15_shown.mono : ∀ k, LeO (rootcellarlaw15_shown.f k ) (rootcellarlaw15_shown.f (k + 1) ) := by
 intro  k
 unfold rootcellarlaw15_shown.f
 repeat' first
   | (with_reducible exact date_Civil.mono _ _)
   | (with_reducible exact date_Day.mono _ _ _ _)
   | (with_reducible exact date_Stamp.mono _ _)
   | (with_reducible exact LeO.refl _)
   | (with_reducible exact LeO.none _)
   | (with_reducible refine LeO.ite ?_ ?_)
   | (with_reducible refine LeO.bind ?_ (fun _ => ?_))
   | exact date_Civil.mono _ _
   | exact date_Day.mono _ _ _ _
   | exact date_Stamp.mono _ _
   | exact LeO.none _
   | refine LeO.ite ?_ ?_
   | refine LeO.bind ?_ (fun _ => ?_)
set_option maxHeartbeats 8000000 in
set_option maxRecDepth 100000 in
theorem rootcellarlaw15_shown.calls (k : Nat)  (r : Bool) (w : World) (h : rootcellarlaw15_shown.f k  = some r) (HT : Tabs w) :
  Calls Tryd.prog 5 #[] w fun e w' => e = .returned (.bool r) ∧ Below w.heap.size w w' := by
 have HB := Aside0.mk (Below.refl w.heap.size w)
 have H : ((date_Civil.f k 11016).bind fun bt111 => ((date_Day.f k 2000 2 30).bind fun bt114 => (if bt111.1 = 2000 then (if bt111.2.1 = 2 then (if bt111.2.2 = 29 then (if bt114.2 = true then (some false) else ((date_Stamp.f k 951868799).bind fun t116 => (some (t116.toList == ([50, 48, 48, 48, 45, 48, 50, 45, 50, 57, 32, 50, 51, 58, 53, 57, 58, 53, 57] : List UInt8))))) else (some false)) else (some false)) else (some false)))) = some r := h
 clear h
 replace H := Option.bind_eq_some_iff.mp H
 obtain ⟨⟨t111, t112, t113⟩, A10, H⟩ := H
 replace H : ((date_Day.f k 2000 2 30).bind fun bt114 => (if t111 = 2000 then (if t112 = 2 then (if t113 = 29 then (if bt114.2 = true then (some false) else ((date_Stamp.f k 951868799).bind fun t116 => (some (t116.toList == ([50, 48, 48, 48, 45, 48, 50, 45, 50, 57, 32, 50, 51, 58, 53, 57, 58, 53, 57] : List UInt8))))) else (some false)) else (some false)) else (some false))) = some r := H
 have A1 := Aside0.mk A10
 clear A10
 replace H := Option.bind_eq_some_iff.mp H
 obtain ⟨⟨t114, t115⟩, A20, H⟩ := H
 replace H : (if t111 = 2000 then (if t112 = 2 then (if t113 = 29 then (if t115 = true then (some false) else ((date_Stamp.f k 951868799).bind fun t116 => (some (t116.toList == ([50, 48, 48, 48, 45, 48, 50, 45, 50, 57, 32, 50, 51, 58, 53, 57, 58, 53, 57] : List UInt8))))) else (some false)) else (some false)) else (some false)) = some r := H
 have A2 := Aside0.mk A20
 clear A20
 by_cases c3 : t111 = 2000
 ·rw [if_pos c3] at H
  have c3b0 : (t111 == 2000) = true := beq_iff_eq.mpr c3
  have c3b1 : (t111 != 2000) = false := bne_eq_false_iff_eq.mpr c3
  clear c3
  by_cases c4 : t112 = 2
  ·rw [if_pos c4] at H
   have c4b0 : (t112 == 2) = true := beq_iff_eq.mpr c4
   have c4b1 : (t112 != 2) = false := bne_eq_false_iff_eq.mpr c4
   clear c4
   by_cases c5 : t113 = 29
   ·rw [if_pos c5] at H
    have c5b0 : (t113 == 29) = true := beq_iff_eq.mpr c5
    have c5b1 : (t113 != 29) = false := bne_eq_false_iff_eq.mpr c5
    clear c5
    by_cases c6 : t115 = true
    ·subst c6
     have H1 : (some false) = some r := by rw [if_pos rfl] at H; exact H
     clear H
     have H := H1
     clear H1
     obtain rfl := Option.some.inj H
     go_enter Tryd.func5, Tryd.ntmps5
     go_wp2_with (first | ((with_reducible refine gate_callee (f := 9) rfl ?_); refine goesL_ (some 7) rfl rfl Tryd.func9 (by kernel_rfl) rfl #[.int .i64 11016] rfl (by (try simp only [List.map_toArray, List.map_cons, List.map_nil]); first | done | rfl | (simp only [List.length_drop, List.length_take]; rfl) | (rw [wrap_sum2 (by assumption)]; rfl)) ?_; (with_reducible refine (date_Civil.calls k 11016 t111 t112 t113 _ A1.out).mono ?_); rintro e w' ⟨rfl, ⟨nd, rfl⟩⟩; refine ⟨_, rfl, ?_⟩) | ((with_reducible refine gate_callee (f := 10) rfl ?_); refine goesL_ (some 12) rfl rfl Tryd.func10 (by kernel_rfl) rfl #[.int .i64 2000, .int .i64 2, .int .i64 30] rfl (by (try simp only [List.map_toArray, List.map_cons, List.map_nil]); first | done | rfl | (simp only [List.length_drop, List.length_take]; rfl) | (rw [wrap_sum2 (by assumption)]; rfl)) ?_; (with_reducible refine (date_Day.calls k 2000 2 30 t114 true _ A2.out).mono ?_); rintro e w7 ⟨rfl, hb⟩; refine ⟨_, rfl, ?_⟩; have n0_ := Aside0.mk (below_step (by repeat (first | (with_reducible first | exact HB.out | apply below_alloc | apply pw_below_drewN | apply below_drew1) | exact HB.out)) hb); clear HB; have HB := n0_; clear n0_; (try clear hb); (try clear hb2); (try clear hk); (try clear hi)))
     go_ret
     exact ⟨by first | rfl | (simp [errW_none, errW_some] <;> rfl) | (simp [*, errW_none, errW_some] <;> rfl), by repeat (first | (with_reducible first | exact HB.out | apply below_alloc | apply pw_below_drewN | apply below_drew1) | exact HB.out)⟩
    ·replace c6 := Bool.eq_false_iff.mpr c6
     subst c6
     have H1 : ((date_Stamp.f k 951868799).bind fun t116 => (some (t116.toList == ([50, 48, 48, 48, 45, 48, 50, 45, 50, 57, 32, 50, 51, 58, 53, 57, 58, 53, 57] : List UInt8)))) = some r := by rw [if_neg (show ¬ (false = true) by decide)] at H; exact H
     clear H
     have H := H1
     clear H1
     replace H := Option.bind_eq_some_iff.mp H
     obtain ⟨t116, A80, H⟩ := H
     replace H : (some (t116.toList == ([50, 48, 48, 48, 45, 48, 50, 45, 50, 57, 32, 50, 51, 58, 53, 57, 58, 53, 57] : List UInt8))) = some r := H
     have A8 := Aside0.mk A80
     clear A80
     obtain rfl := Option.some.inj H
     go_enter Tryd.func5, Tryd.ntmps5
     go_wp2_with (first | ((with_reducible refine gate_callee (f := 9) rfl ?_); refine goesL_ (some 7) rfl rfl Tryd.func9 (by kernel_rfl) rfl #[.int .i64 11016] rfl (by (try simp only [List.map_toArray, List.map_cons, List.map_nil]); first | done | rfl | (simp only [List.length_drop, List.length_take]; rfl) | (rw [wrap_sum2 (by assumption)]; rfl)) ?_; (with_reducible refine (date_Civil.calls k 11016 t111 t112 t113 _ A1.out).mono ?_); rintro e w' ⟨rfl, ⟨nd, rfl⟩⟩; refine ⟨_, rfl, ?_⟩) | ((with_reducible refine gate_callee (f := 10) rfl ?_); refine goesL_ (some 12) rfl rfl Tryd.func10 (by kernel_rfl) rfl #[.int .i64 2000, .int .i64 2, .int .i64 30] rfl (by (try simp only [List.map_toArray, List.map_cons, List.map_nil]); first | done | rfl | (simp only [List.length_drop, List.length_take]; rfl) | (rw [wrap_sum2 (by assumption)]; rfl)) ?_; (with_reducible refine (date_Day.calls k 2000 2 30 t114 false _ A2.out).mono ?_); rintro e w9 ⟨rfl, hb⟩; refine ⟨_, rfl, ?_⟩; have n0_ := Aside0.mk (below_step (by repeat (first | (with_reducible first | exact HB.out | apply below_alloc | apply pw_below_drewN | apply below_drew1) | exact HB.out)) hb); clear HB; have HB := n0_; clear n0_; (try clear hb); (try clear hb2); (try clear hk); (try clear hi)) | (go_at_call 8; (with_reducible refine (date_Stamp.calls k 951868799 t116 _ A8.out (HT.below (by repeat (first | (with_reducible first | exact HB.out | apply below_alloc | apply pw_below_drewN | apply below_drew1) | exact HB.out)))).mono ?_); rintro e w10 ⟨rfl, hb⟩; have n0_ := Aside0.mk (below_step (by repeat (first | (with_reducible first | exact HB.out | apply below_alloc | apply pw_below_drewN | apply below_drew1) | exact HB.out)) hb); clear HB; have HB := n0_; clear n0_; (try clear hb); (try clear hb2); (try clear hk); (try clear hi)))
     go_ret
     exact ⟨by first | rfl | (simp [errW_none, errW_some] <;> rfl) | (simp [*, errW_none, errW_some] <;> rfl), by repeat (first | (with_reducible first | exact HB.out | apply below_alloc | apply pw_below_drewN | apply below_drew1) | exact HB.out)⟩
   ·rw [if_neg c5] at H
    have c5b0 : (t113 == 29) = false := beq_eq_false_iff_ne.mpr c5
    have c5b1 : (t113 != 29) = true := bne_iff_ne.mpr c5
    obtain rfl := Option.some.inj H
    go_enter Tryd.func5, Tryd.ntmps5
    go_wp2_with (first | ((with_reducible refine gate_callee (f := 9) rfl ?_); refine goesL_ (some 7) rfl rfl Tryd.func9 (by kernel_rfl) rfl #[.int .i64 11016] rfl (by (try simp only [List.map_toArray, List.map_cons, List.map_nil]); first | done | rfl | (simp only [List.length_drop, List.length_take]; rfl) | (rw [wrap_sum2 (by assumption)]; rfl)) ?_; (with_reducible refine (date_Civil.calls k 11016 t111 t112 t113 _ A1.out).mono ?_); rintro e w' ⟨rfl, ⟨nd, rfl⟩⟩; refine ⟨_, rfl, ?_⟩) | ((with_reducible refine gate_callee (f := 10) rfl ?_); refine goesL_ (some 12) rfl rfl Tryd.func10 (by kernel_rfl) rfl #[.int .i64 2000, .int .i64 2, .int .i64 30] rfl (by (try simp only [List.map_toArray, List.map_cons, List.map_nil]); first | done | rfl | (simp only [List.length_drop, List.length_take]; rfl) | (rw [wrap_sum2 (by assumption)]; rfl)) ?_; (with_reducible refine (date_Day.calls k 2000 2 30 t114 t115 _ A2.out).mono ?_); rintro e w11 ⟨rfl, hb⟩; refine ⟨_, rfl, ?_⟩; have n0_ := Aside0.mk (below_step (by repeat (first | (with_reducible first | exact HB.out | apply below_alloc | apply pw_below_drewN | apply below_drew1) | exact HB.out)) hb); clear HB; have HB := n0_; clear n0_; (try clear hb); (try clear hb2); (try clear hk); (try clear hi)))
    go_ret
    exact ⟨by first | rfl | (simp [errW_none, errW_some] <;> rfl) | (simp [*, errW_none, errW_some] <;> rfl), by repeat (first | (with_reducible first | exact HB.out | apply below_alloc | apply pw_below_drewN | apply below_drew1) | exact HB.out)⟩
  ·rw [if_neg c4] at H
   have c4b0 : (t112 == 2) = false := beq_eq_false_iff_ne.mpr c4
   have c4b1 : (t112 != 2) = true := bne_iff_ne.mpr c4
   obtain rfl := Option.some.inj H
   go_enter Tryd.func5, Tryd.ntmps5
   go_wp2_with (first | ((with_reducible refine gate_callee (f := 9) rfl ?_); refine goesL_ (some 7) rfl rfl Tryd.func9 (by kernel_rfl) rfl #[.int .i64 11016] rfl (by (try simp only [List.map_toArray, List.map_cons, List.map_nil]); first | done | rfl | (simp only [List.length_drop, List.length_take]; rfl) | (rw [wrap_sum2 (by assumption)]; rfl)) ?_; (with_reducible refine (date_Civil.calls k 11016 t111 t112 t113 _ A1.out).mono ?_); rintro e w' ⟨rfl, ⟨nd, rfl⟩⟩; refine ⟨_, rfl, ?_⟩) | ((with_reducible refine gate_callee (f := 10) rfl ?_); refine goesL_ (some 12) rfl rfl Tryd.func10 (by kernel_rfl) rfl #[.int .i64 2000, .int .i64 2, .int .i64 30] rfl (by (try simp only [List.map_toArray, List.map_cons, List.map_nil]); first | done | rfl | (simp only [List.length_drop, List.length_take]; rfl) | (rw [wrap_sum2 (by assumption)]; rfl)) ?_; (with_reducible refine (date_Day.calls k 2000 2 30 t114 t115 _ A2.out).mono ?_); rintro e w12 ⟨rfl, hb⟩; refine ⟨_, rfl, ?_⟩; have n0_ := Aside0.mk (below_step (by repeat (first | (with_reducible first | exact HB.out | apply below_alloc | apply pw_below_drewN | apply below_drew1) | exact HB.out)) hb); clear HB; have HB := n0_; clear n0_; (try clear hb); (try clear hb2); (try clear hk); (try clear hi)))
   go_ret
   exact ⟨by first | rfl | (simp [errW_none, errW_some] <;> rfl) | (simp [*, errW_none, errW_some] <;> rfl), by repeat (first | (with_reducible first | exact HB.out | apply below_alloc | apply pw_below_drewN | apply below_drew1) | exact HB.out)⟩
 ·rw [if_neg c3] at H
  have c3b0 : (t111 == 2000) = false := beq_eq_false_iff_ne.mpr c3
  have c3b1 : (t111 != 2000) = true := bne_iff_ne.mpr c3
  obtain rfl := Option.some.inj H
  go_enter Tryd.func5, Tryd.ntmps5
  go_wp2_with (first | ((with_reducible refine gate_callee (f := 9) rfl ?_); refine goesL_ (some 7) rfl rfl Tryd.func9 (by kernel_rfl) rfl #[.int .i64 11016] rfl (by (try simp only [List.map_toArray, List.map_cons, List.map_nil]); first | done | rfl | (simp only [List.length_drop, List.length_take]; rfl) | (rw [wrap_sum2 (by assumption)]; rfl)) ?_; (with_reducible refine (date_Civil.calls k 11016 t111 t112 t113 _ A1.out).mono ?_); rintro e w' ⟨rfl, ⟨nd, rfl⟩⟩; refine ⟨_, rfl, ?_⟩) | ((with_reducible refine gate_callee (f := 10) rfl ?_); refine goesL_ (some 12) rfl rfl Tryd.func10 (by kernel_rfl) rfl #[.int .i64 2000, .int .i64 2, .int .i64 30] rfl (by (try simp only [List.map_toArray, List.map_cons, List.map_nil]); first | done | rfl | (simp only [List.length_drop, List.length_take]; rfl) | (rw [wrap_sum2 (by assumption)]; rfl)) ?_; (with_reducible refine (date_Day.calls k 2000 2 30 t114 t115 _ A2.out).mono ?_); rintro e w13 ⟨rfl, hb⟩; refine ⟨_, rfl, ?_⟩; have n0_ := Aside0.mk (below_step (by repeat (first | (with_reducible first | exact HB.out | apply below_alloc | apply pw_below_drewN | apply below_drew1) | exact HB.out)) hb); clear HB; have HB := n0_; clear n0_; (try clear hb); (try clear hb2); (try clear hk); (try clear hi)))
  go_ret
  exact ⟨by first | rfl | (simp [errW_none, errW_some] <;> rfl) | (simp [*, errW_none, errW_some] <;> rfl), by repeat (first | (with_reducible first | exact HB.out | apply below_alloc | apply pw_below_drewN | apply below_drew1) | exact HB.out)⟩


end Go.Proofs.YtjoaiolacalemaaDoor.Fn
end
section
-- Written by printx.py, a program of this session over the kit's print: each Go function as a plain Lean function, and that the Go code computes it.

namespace Go.Proofs.YtjoaiolacalemaaDoor.Fn
open Go.RowKit Go.Proofs.YtjoaiolacalemaaDoorW.PrintWords Go.Proofs.YtjoaiolacalemaaDoorW.PrintLast Go.Proofs.YtjoaiolacalemaaDoorW.PrintMore Go.Proofs.YtjoaiolacalemaaDoor.Lf
attribute [local go_sem] max2_int min2_int max_two min_two max_three min_three max_four min_four   -- for this text's walks alone
set_option linter.unusedVariables false
set_option linter.unusedSimpArgs false

/-! ### rootcellarref15_number: function 16 -/
def rootcellarref15_number.l0 : Nat → ByteArray → Int → Int → Option (Int)
 | 0, _, _, _ => none
 | k + 1, x0, x3, x4 => if x4 < (x0.size : Int) then (if 0 ≤ x4 then (if (bt x0 x4) < 48 then (some (-1)) else (if (bt x0 x4) > 57 then (some (-1)) else (rootcellarref15_number.l0 k x0 (wrap64 ((wrap64 (10 * x3)) + (((bt x0 x4) - 48) % 256))) (wrap64 (x4 + 1))))) else (none)) else (some x3)
def rootcellarref15_number.f (k : Nat) (a0 : ByteArray) : Option (Int) := rootcellarref15_number.l0 k a0 0 0
theorem rootcellarref15_number.mono_l : ∀ k, (∀ y0 y1 y2, LeO (rootcellarref15_number.l0 k y0 y1 y2) (rootcellarref15_number.l0 (k + 1) y0 y1 y2))
 | 0 => fun _ _ _ r h => by simp [rootcellarref15_number.l0] at h
 | k + 1 => by
  have ih0 := rootcellarref15_number.mono_l k
  ·intro y0 y1 y2
   unfold rootcellarref15_number.l0
   repeat' first
   | (with_reducible exact ih0 _ _ _)
   | (with_reducible exact LeO.refl _)
   | (with_reducible exact LeO.none _)
   | (with_reducible refine LeO.ite ?_ ?_)
   | (with_reducible refine LeO.bind ?_ (fun _ => ?_))
   | exact ih0 _ _ _
   | exact LeO.none _
   | refine LeO.ite ?_ ?_
   | refine LeO.bind ?_ (fun _ => ?_)
theorem rootcellarref15_number.mono : ∀ a0 k, LeO (rootcellarref15_number.f k a0) (rootcellarref15_number.f (k + 1) a0) := by
 intro a0 k
 have ih0 := rootcellarref15_number.mono_l k
 unfold rootcellarref15_number.f
 repeat' first
   | (with_reducible exact ih0 _ _ _)
   | (with_reducible exact LeO.refl _)
   | (with_reducible exact LeO.none _)
   | (with_reducible refine LeO.ite ?_ ?_)
   | (with_reducible refine LeO.bind ?_ (fun _ => ?_))
   | exact ih0 _ _ _
   | exact LeO.none _
   | refine LeO.ite ?_ ?_
   | refine LeO.bind ?_ (fun _ => ?_)
set_option maxHeartbeats 8000000 in
set_option maxRecDepth 100000 in
theorem rootcellarref15_number.calls (k : Nat) (a0 : ByteArray) (r : Int) (w : World) (h : rootcellarref15_number.f k a0 = some r) :
  Calls Tryd.prog 16 #[.string a0] w fun e w' => e = .returned (.int .i64 r) ∧ Drawn0 w w' := by
 have H : (rootcellarref15_number.l0 k a0 0 0) = some r := h
 clear h
 have H' := Aside0.mk H
 clear H
 go_enter Tryd.func16, Tryd.ntmps16
 go_wp2
 go_loopg [3, 4] k (fun kq v3 v4 w' => ∃ (x3_1 : Int) (x4_1 : Int), v3 = .int .i64 x3_1 ∧ v4 = .int .i64 x4_1 ∧ Aside0 (rootcellarref15_number.l0 kq a0 x3_1 x4_1 = some r) ∧ Aside0 (kq ≤ k) ∧ Drawn0 w w')
 case atStart => exact ⟨(0), (0), (by first | rfl | (simp; done) | (simp [*]; done)), (by first | rfl | (simp; done) | (simp [*]; done)), H', ⟨Nat.le_refl _⟩, by repeat (first | exact Drawn0.refl _ | apply Drawn0.step)⟩
 case round =>
  clear H'
  try clear c1
  obtain ⟨x3_1, x4_1, rfl, rfl, HA, HK1, ⟨m1, rfl⟩⟩ := hrel
  cases gk with
  | zero => exact absurd HA.out (by simp [rootcellarref15_number.l0])
  | succ k1 =>
   have H := HA.out
   clear HA
   simp only [rootcellarref15_number.l0] at H
   by_cases c2 : x4_1 < (a0.size : Int)
   ·rw [if_pos c2] at H
    have c2b0 : decide (x4_1 < (a0.size : Int)) = true := decide_eq_true c2
    clear c2
    by_cases c3 : 0 ≤ x4_1
    ·rw [if_pos c3] at H
     have c3b0 : decide (0 ≤ x4_1) = true := decide_eq_true c3
     clear c3
     by_cases c5 : (bt a0 x4_1) < 48
     ·rw [if_pos c5] at H
      have c5b0 : decide ((bt a0 x4_1) < 48) = true := decide_eq_true c5
      clear c5
      obtain rfl := Option.some.inj H
      have p4 : 0 ≤ (x4_1 : Int) := of_decide_eq_true (by first | (with_reducible assumption) | assumption)
      have q4 : x4_1 < (a0.size : Int) := of_decide_eq_true (by first | (with_reducible assumption) | assumption)
      have hx4 := bt_at a0 x4_1
      replace p4 := eq_true p4
      replace q4 := eq_true q4
      go_wp2
      go_ret
      exact ⟨by first | rfl | (simp; done) | (simp [*]; done), by repeat (first | exact Drawn0.refl _ | apply Drawn0.step)⟩
     ·rw [if_neg c5] at H
      have c5b0 : decide ((bt a0 x4_1) < 48) = false := decide_eq_false c5
      clear c5
      by_cases c7 : (bt a0 x4_1) > 57
      ·rw [if_pos c7] at H
       have c7b0 : decide (57 < (bt a0 x4_1)) = true := decide_eq_true c7
       clear c7
       obtain rfl := Option.some.inj H
       have p4 : 0 ≤ (x4_1 : Int) := of_decide_eq_true (by first | (with_reducible assumption) | assumption)
       have q4 : x4_1 < (a0.size : Int) := of_decide_eq_true (by first | (with_reducible assumption) | assumption)
       have hx4 := bt_at a0 x4_1
       replace p4 := eq_true p4
       replace q4 := eq_true q4
       have p6 : 0 ≤ (x4_1 : Int) := of_decide_eq_true (by first | (with_reducible assumption) | assumption)
       have q6 : x4_1 < (a0.size : Int) := of_decide_eq_true (by first | (with_reducible assumption) | assumption)
       have hx6 := bt_at a0 x4_1
       replace p6 := eq_true p6
       replace q6 := eq_true q6
       go_wp2
       go_ret
       exact ⟨by first | rfl | (simp; done) | (simp [*]; done), by repeat (first | exact Drawn0.refl _ | apply Drawn0.step)⟩
      ·rw [if_neg c7] at H
       have c7b0 : decide (57 < (bt a0 x4_1)) = false := decide_eq_false c7
       clear c7
       have H' := Aside0.mk H
       clear H
       have p4 : 0 ≤ (x4_1 : Int) := of_decide_eq_true (by first | (with_reducible assumption) | assumption)
       have q4 : x4_1 < (a0.size : Int) := of_decide_eq_true (by first | (with_reducible assumption) | assumption)
       have hx4 := bt_at a0 x4_1
       replace p4 := eq_true p4
       replace q4 := eq_true q4
       have p6 : 0 ≤ (x4_1 : Int) := of_decide_eq_true (by first | (with_reducible assumption) | assumption)
       have q6 : x4_1 < (a0.size : Int) := of_decide_eq_true (by first | (with_reducible assumption) | assumption)
       have hx6 := bt_at a0 x4_1
       replace p6 := eq_true p6
       replace q6 := eq_true q6
       have p8 : 0 ≤ (x4_1 : Int) := of_decide_eq_true (by first | (with_reducible assumption) | assumption)
       have q8 : x4_1 < (a0.size : Int) := of_decide_eq_true (by first | (with_reducible assumption) | assumption)
       have hx8 := bt_at a0 x4_1
       replace p8 := eq_true p8
       replace q8 := eq_true q8
       go_wp2
       go_roundg k1
       case measure => have := HK1.out; omega
       case rel => exact ⟨(wrap64 ((wrap64 (10 * x3_1)) + (((bt a0 x4_1) - 48) % 256))), (wrap64 (x4_1 + 1)), (by first | rfl | (simp; done) | (simp [*]; done)), (by first | rfl | (simp; done) | (simp [*]; done)), H', ⟨by have := HK1.out; omega⟩, by repeat (first | exact Drawn0.refl _ | apply Drawn0.step)⟩
    ·rw [if_neg c3] at H
     exact absurd H (by simp)
   ·rw [if_neg c2] at H
    have c2b0 : decide (x4_1 < (a0.size : Int)) = false := decide_eq_false c2
    clear c2
    obtain rfl := Option.some.inj H
    go_wp2
    go_ret
    exact ⟨by first | rfl | (simp; done) | (simp [*]; done), by repeat (first | exact Drawn0.refl _ | apply Drawn0.step)⟩

end Go.Proofs.YtjoaiolacalemaaDoor.Fn
end
section
-- Written by printx.py, a program of this session over the kit's print: each Go function as a plain Lean function, and that the Go code computes it.




namespace Go.Proofs.YtjoaiolacalemaaDoor.Fn
open Go.RowKit Go.Proofs.YtjoaiolacalemaaDoorW.PrintWords Go.Proofs.YtjoaiolacalemaaDoorW.PrintLast Go.Proofs.YtjoaiolacalemaaDoorW.PrintMore Go.Proofs.YtjoaiolacalemaaDoor.Lf
attribute [local go_sem] max2_int min2_int max_two min_two max_three min_three max_four min_four   -- for this text's walks alone
set_option linter.unusedVariables false
set_option linter.unusedSimpArgs false

/-! ### rootcellarref15_Read: function 7 -/
mutual
def rootcellarref15_Read.j0 : Nat → ByteArray → Int → Bool → Option (Int × Int)
 | 0, _, _, _ => none
 | k + 1, x0, x4, x19 => if x19 = true then (some (0, 2)) else (if 0 ≤ (wrap64 (x4 - 15)) then (if (wrap64 (x4 - 15)) ≤ (x0.size : Int) then ((rootcellarref15_number.f k (x0.extract 0 ((wrap64 (x4 - 15)) : Int).toNat)).bind fun t135 => (if 0 ≤ (wrap64 ((wrap64 (x4 - 15)) + 1)) then (if (wrap64 ((wrap64 (x4 - 15)) + 1)) ≤ (wrap64 ((wrap64 (x4 - 15)) + 3)) then (if (wrap64 ((wrap64 (x4 - 15)) + 3)) ≤ (x0.size : Int) then ((rootcellarref15_number.f k (x0.extract ((wrap64 ((wrap64 (x4 - 15)) + 1)) : Int).toNat ((wrap64 ((wrap64 (x4 - 15)) + 3)) : Int).toNat)).bind fun t136 => (if 0 ≤ (wrap64 ((wrap64 (x4 - 15)) + 4)) then (if (wrap64 ((wrap64 (x4 - 15)) + 4)) ≤ (wrap64 ((wrap64 (x4 - 15)) + 6)) then (if (wrap64 ((wrap64 (x4 - 15)) + 6)) ≤ (x0.size : Int) then ((rootcellarref15_number.f k (x0.extract ((wrap64 ((wrap64 (x4 - 15)) + 4)) : Int).toNat ((wrap64 ((wrap64 (x4 - 15)) + 6)) : Int).toNat)).bind fun t137 => ((rootcellarref15_Day.f k t135 t136 t137).bind fun bt138 => (if 0 ≤ (wrap64 ((wrap64 (x4 - 15)) + 7)) then (if (wrap64 ((wrap64 (x4 - 15)) + 7)) ≤ (wrap64 ((wrap64 (x4 - 15)) + 9)) then (if (wrap64 ((wrap64 (x4 - 15)) + 9)) ≤ (x0.size : Int) then ((rootcellarref15_number.f k (x0.extract ((wrap64 ((wrap64 (x4 - 15)) + 7)) : Int).toNat ((wrap64 ((wrap64 (x4 - 15)) + 9)) : Int).toNat)).bind fun t140 => (if 0 ≤ (wrap64 ((wrap64 (x4 - 15)) + 10)) then (if (wrap64 ((wrap64 (x4 - 15)) + 10)) ≤ (wrap64 ((wrap64 (x4 - 15)) + 12)) then (if (wrap64 ((wrap64 (x4 - 15)) + 12)) ≤ (x0.size : Int) then ((rootcellarref15_number.f k (x0.extract ((wrap64 ((wrap64 (x4 - 15)) + 10)) : Int).toNat ((wrap64 ((wrap64 (x4 - 15)) + 12)) : Int).toNat)).bind fun t141 => (if 0 ≤ (wrap64 ((wrap64 (x4 - 15)) + 13)) then (if (wrap64 ((wrap64 (x4 - 15)) + 13)) ≤ (x0.size : Int) then ((rootcellarref15_number.f k (x0.extract ((wrap64 ((wrap64 (x4 - 15)) + 13)) : Int).toNat x0.size)).bind fun t142 => (if bt138.2 = true then (if bt138.1 > 213503982334601 then (rootcellarref15_Read.j1 k x0 bt138.1 t140 t141 t142 true) else (if t140 < 0 then (rootcellarref15_Read.j1 k x0 bt138.1 t140 t141 t142 true) else (if t141 < 0 then (rootcellarref15_Read.j1 k x0 bt138.1 t140 t141 t142 true) else (if t142 < 0 then (rootcellarref15_Read.j1 k x0 bt138.1 t140 t141 t142 true) else (if t140 > 23 then (rootcellarref15_Read.j1 k x0 bt138.1 t140 t141 t142 true) else (if t141 > 59 then (rootcellarref15_Read.j1 k x0 bt138.1 t140 t141 t142 true) else (rootcellarref15_Read.j1 k x0 bt138.1 t140 t141 t142 (decide (t142 > 59))))))))) else (rootcellarref15_Read.j1 k x0 bt138.1 t140 t141 t142 true))) else (none)) else (none))) else (none)) else (none)) else (none))) else (none)) else (none)) else (none)))) else (none)) else (none)) else (none))) else (none)) else (none)) else (none))) else (none)) else (none))
def rootcellarref15_Read.j1 : Nat → ByteArray → Int → Int → Int → Int → Bool → Option (Int × Int)
 | 0, _, _, _, _, _, _ => none
 | k + 1, x0, x6, x8, x9, x10, x92 => if x92 = true then (some (0, 2)) else ((rootcellarref15_Stamp.f k (IntKind.u64.wrap ((IntKind.u64.wrap ((IntKind.u64.wrap (x6)) * 86400)) + (IntKind.u64.wrap (wrap64 ((wrap64 ((wrap64 (3600 * x8)) + (wrap64 (60 * x9)))) + x10)))))).bind fun t143 => (if t143.toList = x0.toList then (some (IntKind.u64.wrap ((IntKind.u64.wrap ((IntKind.u64.wrap (x6)) * 86400)) + (IntKind.u64.wrap (wrap64 ((wrap64 ((wrap64 (3600 * x8)) + (wrap64 (60 * x9)))) + x10)))), 0)) else (some (0, 2))))
end
def rootcellarref15_Read.f (k : Nat) (a0 : ByteArray) : Option (Int × Int) := if (a0.size : Int) < 19 then (rootcellarref15_Read.j0 k a0 (a0.size : Int) true) else (rootcellarref15_Read.j0 k a0 (a0.size : Int) (decide ((a0.size : Int) > 32)))
theorem rootcellarref15_Read.mono_l : ∀ k, (∀ y0 y1 y2, LeO (rootcellarref15_Read.j0 k y0 y1 y2) (rootcellarref15_Read.j0 (k + 1) y0 y1 y2)) ∧ (∀ y0 y1 y2 y3 y4 y5, LeO (rootcellarref15_Read.j1 k y0 y1 y2 y3 y4 y5) (rootcellarref15_Read.j1 (k + 1) y0 y1 y2 y3 y4 y5))
 | 0 => ⟨fun _ _ _ r h => by simp [rootcellarref15_Read.j0] at h, fun _ _ _ _ _ _ r h => by simp [rootcellarref15_Read.j1] at h⟩
 | k + 1 => by
  obtain ⟨ih0, ih1⟩ := rootcellarref15_Read.mono_l k
  refine ⟨?_, ?_⟩
  ·intro y0 y1 y2
   unfold rootcellarref15_Read.j0
   repeat' first
   | (with_reducible exact ih0 _ _ _)
   | (with_reducible exact ih1 _ _ _ _ _ _)
   | (with_reducible exact rootcellarref15_Day.mono _ _ _ _)
   | (with_reducible exact rootcellarref15_Stamp.mono _ _)
   | (with_reducible exact rootcellarref15_number.mono _ _)
   | (with_reducible exact LeO.refl _)
   | (with_reducible exact LeO.none _)
   | (with_reducible refine LeO.ite ?_ ?_)
   | (with_reducible refine LeO.bind ?_ (fun _ => ?_))
   | exact ih0 _ _ _
   | exact ih1 _ _ _ _ _ _
   | exact rootcellarref15_Day.mono _ _ _ _
   | exact rootcellarref15_Stamp.mono _ _
   | exact rootcellarref15_number.mono _ _
   | exact LeO.none _
   | refine LeO.ite ?_ ?_
   | refine LeO.bind ?_ (fun _ => ?_)
  ·intro y0 y1 y2 y3 y4 y5
   unfold rootcellarref15_Read.j1
   repeat' first
   | (with_reducible exact ih0 _ _ _)
   | (with_reducible exact ih1 _ _ _ _ _ _)
   | (with_reducible exact rootcellarref15_Day.mono _ _ _ _)
   | (with_reducible exact rootcellarref15_Stamp.mono _ _)
   | (with_reducible exact rootcellarref15_number.mono _ _)
   | (with_reducible exact LeO.refl _)
   | (with_reducible exact LeO.none _)
   | (with_reducible refine LeO.ite ?_ ?_)
   | (with_reducible refine LeO.bind ?_ (fun _ => ?_))
   | exact ih0 _ _ _
   | exact ih1 _ _ _ _ _ _
   | exact rootcellarref15_Day.mono _ _ _ _
   | exact rootcellarref15_Stamp.mono _ _
   | exact rootcellarref15_number.mono _ _
   | exact LeO.none _
   | refine LeO.ite ?_ ?_
   | refine LeO.bind ?_ (fun _ => ?_)
theorem rootcellarref15_Read.mono : ∀ a0 k, LeO (rootcellarref15_Read.f k a0) (rootcellarref15_Read.f (k + 1) a0) := by
 intro a0 k
 obtain ⟨ih0, ih1⟩ := rootcellarref15_Read.mono_l k
 unfold rootcellarref15_Read.f
 repeat' first
   | (with_reducible exact ih0 _ _ _)
   | (with_reducible exact ih1 _ _ _ _ _ _)
   | (with_reducible exact rootcellarref15_Day.mono _ _ _ _)
   | (with_reducible exact rootcellarref15_Stamp.mono _ _)
   | (with_reducible exact rootcellarref15_number.mono _ _)
   | (with_reducible exact LeO.refl _)
   | (with_reducible exact LeO.none _)
   | (with_reducible refine LeO.ite ?_ ?_)
   | (with_reducible refine LeO.bind ?_ (fun _ => ?_))
   | exact ih0 _ _ _
   | exact ih1 _ _ _ _ _ _
   | exact rootcellarref15_Day.mono _ _ _ _
   | exact rootcellarref15_Stamp.mono _ _
   | exact rootcellarref15_number.mono _ _
   | exact LeO.none _
   | refine LeO.ite ?_ ?_
   | refine LeO.bind ?_ (fun _ => ?_)
set_option maxHeartbeats 8000000 in
set_option maxRecDepth 100000 in
theorem rootcellarref15_Read.calls (k : Nat) (a0 : ByteArray) (r1 : Int) (r2 : Int) (w : World) (h : rootcellarref15_Read.f k a0 = some (r1, r2)) :
  Calls Tryd.prog 7 #[.string a0] w fun e w' => e = .returned (.tuple #[.int .u64 r1, .int .i64 r2]) ∧ Drawn0 w w' := by
 have H : (if (a0.size : Int) < 19 then (rootcellarref15_Read.j0 k a0 (a0.size : Int) true) else (rootcellarref15_Read.j0 k a0 (a0.size : Int) (decide ((a0.size : Int) > 32)))) = some (r1, r2) := h
 clear h
 have HC2 := Aside0.mk H
 clear H
 go_enter Tryd.func7, Tryd.ntmps7
 go_upto_region 2 with (fail)
 repeat (go_quiet (fail); go_upto_region 2 with (fail))
 go_cut [19] (fun v19 wc => ∃ (kq : Nat) (x19_1 : Bool), v19 = .bool x19_1 ∧ Aside0 (rootcellarref15_Read.j0 kq a0 (a0.size : Int) x19_1 = some (r1, r2)) ∧ Aside0 (kq ≤ k) ∧ Drawn0 w wc)
 case first =>
  have H := HC2.out
  clear HC2
  by_cases c3 : (a0.size : Int) < 19
  ·rw [if_pos c3] at H
   have c3b0 : decide ((a0.size : Int) < 19) = true := decide_eq_true c3
   have c3b1 : decide (a0.size < 19) = true := decide_eq_true (by omega)
   clear c3
   (first | rw [c3b0] | (simp only [i64_w, i32_w]; rw [c3b0]) | skip)
   have H' := Aside0.mk H
   clear H
   go_wp2
   repeat (go_quiet (fail); try go_wp2)
   go_meet
   case rel => exact ⟨_, (true), (by first | rfl | (simp; done) | (simp [*]; done)), H', ⟨by first | omega | exact Nat.le_refl _⟩, by repeat (first | exact Drawn0.refl _ | apply Drawn0.step)⟩
  ·rw [if_neg c3] at H
   have c3b0 : decide ((a0.size : Int) < 19) = false := decide_eq_false c3
   have c3b1 : decide (a0.size < 19) = false := decide_eq_false (by omega)
   clear c3
   (first | rw [c3b0] | (simp only [i64_w, i32_w]; rw [c3b0]) | skip)
   have H' := Aside0.mk H
   clear H
   go_wp2
   repeat (go_quiet (fail); try go_wp2)
   go_meet
   case rel => exact ⟨_, (decide ((a0.size : Int) > 32)), (by first | rfl | (simp; done) | (simp [*]; done)), H', ⟨by first | omega | exact Nat.le_refl _⟩, by repeat (first | exact Drawn0.refl _ | apply Drawn0.step)⟩
 case rest =>
  clear HC2
  try clear p2
  try clear c3
  try clear c3b0
  try clear c3b1
  obtain ⟨kq, x19_1, rfl, HA, HJ1, ⟨mc1, rfl⟩⟩ := hcut
  cases kq with
  | zero => exact absurd HA.out (by simp [rootcellarref15_Read.j0])
  | succ kj1 =>
   have H := HA.out
   clear HA
   simp only [rootcellarref15_Read.j0] at H
   by_cases c4 : x19_1 = true
   ·subst c4
    have H1 : (some (0, 2)) = some (r1, r2) := by rw [if_pos rfl] at H; exact H
    clear H
    have H := H1
    clear H1
    simp only [Option.some.injEq, Prod.mk.injEq] at H
    obtain ⟨rfl, rfl⟩ := H
    go_wp2
    repeat (go_quiet (fail); try go_wp2)
    go_ret2
    exact ⟨by first | rfl | (simp; done) | (simp [*]; done), by repeat (first | exact Drawn0.refl _ | apply Drawn0.step)⟩
   ·replace c4 := Bool.eq_false_iff.mpr c4
    subst c4
    have H1 : (if 0 ≤ (wrap64 ((a0.size : Int) - 15)) then (if (wrap64 ((a0.size : Int) - 15)) ≤ (a0.size : Int) then ((rootcellarref15_number.f kj1 (a0.extract 0 ((wrap64 ((a0.size : Int) - 15)) : Int).toNat)).bind fun t135 => (if 0 ≤ (wrap64 ((wrap64 ((a0.size : Int) - 15)) + 1)) then (if (wrap64 ((wrap64 ((a0.size : Int) - 15)) + 1)) ≤ (wrap64 ((wrap64 ((a0.size : Int) - 15)) + 3)) then (if (wrap64 ((wrap64 ((a0.size : Int) - 15)) + 3)) ≤ (a0.size : Int) then ((rootcellarref15_number.f kj1 (a0.extract ((wrap64 ((wrap64 ((a0.size : Int) - 15)) + 1)) : Int).toNat ((wrap64 ((wrap64 ((a0.size : Int) - 15)) + 3)) : Int).toNat)).bind fun t136 => (if 0 ≤ (wrap64 ((wrap64 ((a0.size : Int) - 15)) + 4)) then (if (wrap64 ((wrap64 ((a0.size : Int) - 15)) + 4)) ≤ (wrap64 ((wrap64 ((a0.size : Int) - 15)) + 6)) then (if (wrap64 ((wrap64 ((a0.size : Int) - 15)) + 6)) ≤ (a0.size : Int) then ((rootcellarref15_number.f kj1 (a0.extract ((wrap64 ((wrap64 ((a0.size : Int) - 15)) + 4)) : Int).toNat ((wrap64 ((wrap64 ((a0.size : Int) - 15)) + 6)) : Int).toNat)).bind fun t137 => ((rootcellarref15_Day.f kj1 t135 t136 t137).bind fun bt138 => (if 0 ≤ (wrap64 ((wrap64 ((a0.size : Int) - 15)) + 7)) then (if (wrap64 ((wrap64 ((a0.size : Int) - 15)) + 7)) ≤ (wrap64 ((wrap64 ((a0.size : Int) - 15)) + 9)) then (if (wrap64 ((wrap64 ((a0.size : Int) - 15)) + 9)) ≤ (a0.size : Int) then ((rootcellarref15_number.f kj1 (a0.extract ((wrap64 ((wrap64 ((a0.size : Int) - 15)) + 7)) : Int).toNat ((wrap64 ((wrap64 ((a0.size : Int) - 15)) + 9)) : Int).toNat)).bind fun t140 => (if 0 ≤ (wrap64 ((wrap64 ((a0.size : Int) - 15)) + 10)) then (if (wrap64 ((wrap64 ((a0.size : Int) - 15)) + 10)) ≤ (wrap64 ((wrap64 ((a0.size : Int) - 15)) + 12)) then (if (wrap64 ((wrap64 ((a0.size : Int) - 15)) + 12)) ≤ (a0.size : Int) then ((rootcellarref15_number.f kj1 (a0.extract ((wrap64 ((wrap64 ((a0.size : Int) - 15)) + 10)) : Int).toNat ((wrap64 ((wrap64 ((a0.size : Int) - 15)) + 12)) : Int).toNat)).bind fun t141 => (if 0 ≤ (wrap64 ((wrap64 ((a0.size : Int) - 15)) + 13)) then (if (wrap64 ((wrap64 ((a0.size : Int) - 15)) + 13)) ≤ (a0.size : Int) then ((rootcellarref15_number.f kj1 (a0.extract ((wrap64 ((wrap64 ((a0.size : Int) - 15)) + 13)) : Int).toNat a0.size)).bind fun t142 => (if bt138.2 = true then (if bt138.1 > 213503982334601 then (rootcellarref15_Read.j1 kj1 a0 bt138.1 t140 t141 t142 true) else (if t140 < 0 then (rootcellarref15_Read.j1 kj1 a0 bt138.1 t140 t141 t142 true) else (if t141 < 0 then (rootcellarref15_Read.j1 kj1 a0 bt138.1 t140 t141 t142 true) else (if t142 < 0 then (rootcellarref15_Read.j1 kj1 a0 bt138.1 t140 t141 t142 true) else (if t140 > 23 then (rootcellarref15_Read.j1 kj1 a0 bt138.1 t140 t141 t142 true) else (if t141 > 59 then (rootcellarref15_Read.j1 kj1 a0 bt138.1 t140 t141 t142 true) else (rootcellarref15_Read.j1 kj1 a0 bt138.1 t140 t141 t142 (decide (t142 > 59))))))))) else (rootcellarref15_Read.j1 kj1 a0 bt138.1 t140 t141 t142 true))) else (none)) else (none))) else (none)) else (none)) else (none))) else (none)) else (none)) else (none)))) else (none)) else (none)) else (none))) else (none)) else (none)) else (none))) else (none)) else (none)) = some (r1, r2) := by rw [if_neg (show ¬ (false = true) by decide)] at H; exact H
    clear H
    have H := H1
    clear H1
    obtain ⟨ji5, hji5⟩ : ∃ j_ : Int, (wrap64 ((a0.size : Int) - 15)) = j_ := ⟨_, rfl⟩
    replace H : (if 0 ≤ (ji5) then (if (ji5) ≤ (a0.size : Int) then ((rootcellarref15_number.f kj1 (a0.extract 0 ((ji5) : Int).toNat)).bind fun t135 => (if 0 ≤ (wrap64 ((ji5) + 1)) then (if (wrap64 ((ji5) + 1)) ≤ (wrap64 ((ji5) + 3)) then (if (wrap64 ((ji5) + 3)) ≤ (a0.size : Int) then ((rootcellarref15_number.f kj1 (a0.extract ((wrap64 ((ji5) + 1)) : Int).toNat ((wrap64 ((ji5) + 3)) : Int).toNat)).bind fun t136 => (if 0 ≤ (wrap64 ((ji5) + 4)) then (if (wrap64 ((ji5) + 4)) ≤ (wrap64 ((ji5) + 6)) then (if (wrap64 ((ji5) + 6)) ≤ (a0.size : Int) then ((rootcellarref15_number.f kj1 (a0.extract ((wrap64 ((ji5) + 4)) : Int).toNat ((wrap64 ((ji5) + 6)) : Int).toNat)).bind fun t137 => ((rootcellarref15_Day.f kj1 t135 t136 t137).bind fun bt138 => (if 0 ≤ (wrap64 ((ji5) + 7)) then (if (wrap64 ((ji5) + 7)) ≤ (wrap64 ((ji5) + 9)) then (if (wrap64 ((ji5) + 9)) ≤ (a0.size : Int) then ((rootcellarref15_number.f kj1 (a0.extract ((wrap64 ((ji5) + 7)) : Int).toNat ((wrap64 ((ji5) + 9)) : Int).toNat)).bind fun t140 => (if 0 ≤ (wrap64 ((ji5) + 10)) then (if (wrap64 ((ji5) + 10)) ≤ (wrap64 ((ji5) + 12)) then (if (wrap64 ((ji5) + 12)) ≤ (a0.size : Int) then ((rootcellarref15_number.f kj1 (a0.extract ((wrap64 ((ji5) + 10)) : Int).toNat ((wrap64 ((ji5) + 12)) : Int).toNat)).bind fun t141 => (if 0 ≤ (wrap64 ((ji5) + 13)) then (if (wrap64 ((ji5) + 13)) ≤ (a0.size : Int) then ((rootcellarref15_number.f kj1 (a0.extract ((wrap64 ((ji5) + 13)) : Int).toNat a0.size)).bind fun t142 => (if bt138.2 = true then (if bt138.1 > 213503982334601 then (rootcellarref15_Read.j1 kj1 a0 bt138.1 t140 t141 t142 true) else (if t140 < 0 then (rootcellarref15_Read.j1 kj1 a0 bt138.1 t140 t141 t142 true) else (if t141 < 0 then (rootcellarref15_Read.j1 kj1 a0 bt138.1 t140 t141 t142 true) else (if t142 < 0 then (rootcellarref15_Read.j1 kj1 a0 bt138.1 t140 t141 t142 true) else (if t140 > 23 then (rootcellarref15_Read.j1 kj1 a0 bt138.1 t140 t141 t142 true) else (if t141 > 59 then (rootcellarref15_Read.j1 kj1 a0 bt138.1 t140 t141 t142 true) else (rootcellarref15_Read.j1 kj1 a0 bt138.1 t140 t141 t142 (decide (t142 > 59))))))))) else (rootcellarref15_Read.j1 kj1 a0 bt138.1 t140 t141 t142 true))) else (none)) else (none))) else (none)) else (none)) else (none))) else (none)) else (none)) else (none)))) else (none)) else (none)) else (none))) else (none)) else (none)) else (none))) else (none)) else (none)) = some (r1, r2) := by first | (rw [hji5] at H; exact H) | (simp only [hji5] at H ⊢; exact H)
    have hji5w : (IntKind.i64.wrap ((a0.size : Int) - 15)) = ji5 := (i64_w _).trans hji5
    by_cases c6 : 0 ≤ (ji5)
    ·rw [if_pos c6] at H
     have c6b0 := eq_true c6
     have c6b1 : decide (0 ≤ (ji5)) = true := decide_eq_true c6
     clear c6
     by_cases c7 : (ji5) ≤ (a0.size : Int)
     ·rw [if_pos c7] at H
      have c7b0 := eq_true c7
      have c7b1 : decide ((ji5) ≤ (a0.size : Int)) = true := decide_eq_true c7
      clear c7
      replace H := Option.bind_eq_some_iff.mp H
      obtain ⟨t135, A80, H⟩ := H
      replace H : (if 0 ≤ (wrap64 ((ji5) + 1)) then (if (wrap64 ((ji5) + 1)) ≤ (wrap64 ((ji5) + 3)) then (if (wrap64 ((ji5) + 3)) ≤ (a0.size : Int) then ((rootcellarref15_number.f kj1 (a0.extract ((wrap64 ((ji5) + 1)) : Int).toNat ((wrap64 ((ji5) + 3)) : Int).toNat)).bind fun t136 => (if 0 ≤ (wrap64 ((ji5) + 4)) then (if (wrap64 ((ji5) + 4)) ≤ (wrap64 ((ji5) + 6)) then (if (wrap64 ((ji5) + 6)) ≤ (a0.size : Int) then ((rootcellarref15_number.f kj1 (a0.extract ((wrap64 ((ji5) + 4)) : Int).toNat ((wrap64 ((ji5) + 6)) : Int).toNat)).bind fun t137 => ((rootcellarref15_Day.f kj1 t135 t136 t137).bind fun bt138 => (if 0 ≤ (wrap64 ((ji5) + 7)) then (if (wrap64 ((ji5) + 7)) ≤ (wrap64 ((ji5) + 9)) then (if (wrap64 ((ji5) + 9)) ≤ (a0.size : Int) then ((rootcellarref15_number.f kj1 (a0.extract ((wrap64 ((ji5) + 7)) : Int).toNat ((wrap64 ((ji5) + 9)) : Int).toNat)).bind fun t140 => (if 0 ≤ (wrap64 ((ji5) + 10)) then (if (wrap64 ((ji5) + 10)) ≤ (wrap64 ((ji5) + 12)) then (if (wrap64 ((ji5) + 12)) ≤ (a0.size : Int) then ((rootcellarref15_number.f kj1 (a0.extract ((wrap64 ((ji5) + 10)) : Int).toNat ((wrap64 ((ji5) + 12)) : Int).toNat)).bind fun t141 => (if 0 ≤ (wrap64 ((ji5) + 13)) then (if (wrap64 ((ji5) + 13)) ≤ (a0.size : Int) then ((rootcellarref15_number.f kj1 (a0.extract ((wrap64 ((ji5) + 13)) : Int).toNat a0.size)).bind fun t142 => (if bt138.2 = true then (if bt138.1 > 213503982334601 then (rootcellarref15_Read.j1 kj1 a0 bt138.1 t140 t141 t142 true) else (if t140 < 0 then (rootcellarref15_Read.j1 kj1 a0 bt138.1 t140 t141 t142 true) else (if t141 < 0 then (rootcellarref15_Read.j1 kj1 a0 bt138.1 t140 t141 t142 true) else (if t142 < 0 then (rootcellarref15_Read.j1 kj1 a0 bt138.1 t140 t141 t142 true) else (if t140 > 23 then (rootcellarref15_Read.j1 kj1 a0 bt138.1 t140 t141 t142 true) else (if t141 > 59 then (rootcellarref15_Read.j1 kj1 a0 bt138.1 t140 t141 t142 true) else (rootcellarref15_Read.j1 kj1 a0 bt138.1 t140 t141 t142 (decide (t142 > 59))))))))) else (rootcellarref15_Read.j1 kj1 a0 bt138.1 t140 t141 t142 true))) else (none)) else (none))) else (none)) else (none)) else (none))) else (none)) else (none)) else (none)))) else (none)) else (none)) else (none))) else (none)) else (none)) else (none)) = some (r1, r2) := H
      have A8 := Aside0.mk A80
      clear A80
      obtain ⟨ji9, hji9⟩ : ∃ j_ : Int, (wrap64 ((ji5) + 1)) = j_ := ⟨_, rfl⟩
      replace H : (if 0 ≤ (ji9) then (if (ji9) ≤ (wrap64 ((ji5) + 3)) then (if (wrap64 ((ji5) + 3)) ≤ (a0.size : Int) then ((rootcellarref15_number.f kj1 (a0.extract ((ji9) : Int).toNat ((wrap64 ((ji5) + 3)) : Int).toNat)).bind fun t136 => (if 0 ≤ (wrap64 ((ji5) + 4)) then (if (wrap64 ((ji5) + 4)) ≤ (wrap64 ((ji5) + 6)) then (if (wrap64 ((ji5) + 6)) ≤ (a0.size : Int) then ((rootcellarref15_number.f kj1 (a0.extract ((wrap64 ((ji5) + 4)) : Int).toNat ((wrap64 ((ji5) + 6)) : Int).toNat)).bind fun t137 => ((rootcellarref15_Day.f kj1 t135 t136 t137).bind fun bt138 => (if 0 ≤ (wrap64 ((ji5) + 7)) then (if (wrap64 ((ji5) + 7)) ≤ (wrap64 ((ji5) + 9)) then (if (wrap64 ((ji5) + 9)) ≤ (a0.size : Int) then ((rootcellarref15_number.f kj1 (a0.extract ((wrap64 ((ji5) + 7)) : Int).toNat ((wrap64 ((ji5) + 9)) : Int).toNat)).bind fun t140 => (if 0 ≤ (wrap64 ((ji5) + 10)) then (if (wrap64 ((ji5) + 10)) ≤ (wrap64 ((ji5) + 12)) then (if (wrap64 ((ji5) + 12)) ≤ (a0.size : Int) then ((rootcellarref15_number.f kj1 (a0.extract ((wrap64 ((ji5) + 10)) : Int).toNat ((wrap64 ((ji5) + 12)) : Int).toNat)).bind fun t141 => (if 0 ≤ (wrap64 ((ji5) + 13)) then (if (wrap64 ((ji5) + 13)) ≤ (a0.size : Int) then ((rootcellarref15_number.f kj1 (a0.extract ((wrap64 ((ji5) + 13)) : Int).toNat a0.size)).bind fun t142 => (if bt138.2 = true then (if bt138.1 > 213503982334601 then (rootcellarref15_Read.j1 kj1 a0 bt138.1 t140 t141 t142 true) else (if t140 < 0 then (rootcellarref15_Read.j1 kj1 a0 bt138.1 t140 t141 t142 true) else (if t141 < 0 then (rootcellarref15_Read.j1 kj1 a0 bt138.1 t140 t141 t142 true) else (if t142 < 0 then (rootcellarref15_Read.j1 kj1 a0 bt138.1 t140 t141 t142 true) else (if t140 > 23 then (rootcellarref15_Read.j1 kj1 a0 bt138.1 t140 t141 t142 true) else (if t141 > 59 then (rootcellarref15_Read.j1 kj1 a0 bt138.1 t140 t141 t142 true) else (rootcellarref15_Read.j1 kj1 a0 bt138.1 t140 t141 t142 (decide (t142 > 59))))))))) else (rootcellarref15_Read.j1 kj1 a0 bt138.1 t140 t141 t142 true))) else (none)) else (none))) else (none)) else (none)) else (none))) else (none)) else (none)) else (none)))) else (none)) else (none)) else (none))) else (none)) else (none)) else (none)) = some (r1, r2) := by first | (rw [hji9] at H; exact H) | (simp only [hji9] at H ⊢; exact H)
      (try rw [hji9] at A8)
      have hji9w : (IntKind.i64.wrap ((ji5) + 1)) = ji9 := (i64_w _).trans hji9
      by_cases c10 : 0 ≤ (ji9)
      ·rw [if_pos c10] at H
       have c10b0 := eq_true c10
       have c10b1 : decide (0 ≤ (ji9)) = true := decide_eq_true c10
       clear c10
       by_cases c11 : (ji9) ≤ (wrap64 ((ji5) + 3))
       ·rw [if_pos c11] at H
        have c11b0 := eq_true c11
        have c11b1 : decide ((ji9) ≤ (wrap64 ((ji5) + 3))) = true := decide_eq_true c11
        by_cases c12 : (wrap64 ((ji5) + 3)) ≤ (a0.size : Int)
        ·rw [if_pos c12] at H
         have c12b0 := eq_true c12
         have c12b1 : decide ((wrap64 ((ji5) + 3)) ≤ (a0.size : Int)) = true := decide_eq_true c12
         replace H := Option.bind_eq_some_iff.mp H
         obtain ⟨t136, A130, H⟩ := H
         replace H : (if 0 ≤ (wrap64 ((ji5) + 4)) then (if (wrap64 ((ji5) + 4)) ≤ (wrap64 ((ji5) + 6)) then (if (wrap64 ((ji5) + 6)) ≤ (a0.size : Int) then ((rootcellarref15_number.f kj1 (a0.extract ((wrap64 ((ji5) + 4)) : Int).toNat ((wrap64 ((ji5) + 6)) : Int).toNat)).bind fun t137 => ((rootcellarref15_Day.f kj1 t135 t136 t137).bind fun bt138 => (if 0 ≤ (wrap64 ((ji5) + 7)) then (if (wrap64 ((ji5) + 7)) ≤ (wrap64 ((ji5) + 9)) then (if (wrap64 ((ji5) + 9)) ≤ (a0.size : Int) then ((rootcellarref15_number.f kj1 (a0.extract ((wrap64 ((ji5) + 7)) : Int).toNat ((wrap64 ((ji5) + 9)) : Int).toNat)).bind fun t140 => (if 0 ≤ (wrap64 ((ji5) + 10)) then (if (wrap64 ((ji5) + 10)) ≤ (wrap64 ((ji5) + 12)) then (if (wrap64 ((ji5) + 12)) ≤ (a0.size : Int) then ((rootcellarref15_number.f kj1 (a0.extract ((wrap64 ((ji5) + 10)) : Int).toNat ((wrap64 ((ji5) + 12)) : Int).toNat)).bind fun t141 => (if 0 ≤ (wrap64 ((ji5) + 13)) then (if (wrap64 ((ji5) + 13)) ≤ (a0.size : Int) then ((rootcellarref15_number.f kj1 (a0.extract ((wrap64 ((ji5) + 13)) : Int).toNat a0.size)).bind fun t142 => (if bt138.2 = true then (if bt138.1 > 213503982334601 then (rootcellarref15_Read.j1 kj1 a0 bt138.1 t140 t141 t142 true) else (if t140 < 0 then (rootcellarref15_Read.j1 kj1 a0 bt138.1 t140 t141 t142 true) else (if t141 < 0 then (rootcellarref15_Read.j1 kj1 a0 bt138.1 t140 t141 t142 true) else (if t142 < 0 then (rootcellarref15_Read.j1 kj1 a0 bt138.1 t140 t141 t142 true) else (if t140 > 23 then (rootcellarref15_Read.j1 kj1 a0 bt138.1 t140 t141 t142 true) else (if t141 > 59 then (rootcellarref15_Read.j1 kj1 a0 bt138.1 t140 t141 t142 true) else (rootcellarref15_Read.j1 kj1 a0 bt138.1 t140 t141 t142 (decide (t142 > 59))))))))) else (rootcellarref15_Read.j1 kj1 a0 bt138.1 t140 t141 t142 true))) else (none)) else (none))) else (none)) else (none)) else (none))) else (none)) else (none)) else (none)))) else (none)) else (none)) else (none)) = some (r1, r2) := H
         have A13 := Aside0.mk A130
         clear A130
         obtain ⟨ji14, hji14⟩ : ∃ j_ : Int, (wrap64 ((ji5) + 4)) = j_ := ⟨_, rfl⟩
         replace H : (if 0 ≤ (ji14) then (if (ji14) ≤ (wrap64 ((ji5) + 6)) then (if (wrap64 ((ji5) + 6)) ≤ (a0.size : Int) then ((rootcellarref15_number.f kj1 (a0.extract ((ji14) : Int).toNat ((wrap64 ((ji5) + 6)) : Int).toNat)).bind fun t137 => ((rootcellarref15_Day.f kj1 t135 t136 t137).bind fun bt138 => (if 0 ≤ (wrap64 ((ji5) + 7)) then (if (wrap64 ((ji5) + 7)) ≤ (wrap64 ((ji5) + 9)) then (if (wrap64 ((ji5) + 9)) ≤ (a0.size : Int) then ((rootcellarref15_number.f kj1 (a0.extract ((wrap64 ((ji5) + 7)) : Int).toNat ((wrap64 ((ji5) + 9)) : Int).toNat)).bind fun t140 => (if 0 ≤ (wrap64 ((ji5) + 10)) then (if (wrap64 ((ji5) + 10)) ≤ (wrap64 ((ji5) + 12)) then (if (wrap64 ((ji5) + 12)) ≤ (a0.size : Int) then ((rootcellarref15_number.f kj1 (a0.extract ((wrap64 ((ji5) + 10)) : Int).toNat ((wrap64 ((ji5) + 12)) : Int).toNat)).bind fun t141 => (if 0 ≤ (wrap64 ((ji5) + 13)) then (if (wrap64 ((ji5) + 13)) ≤ (a0.size : Int) then ((rootcellarref15_number.f kj1 (a0.extract ((wrap64 ((ji5) + 13)) : Int).toNat a0.size)).bind fun t142 => (if bt138.2 = true then (if bt138.1 > 213503982334601 then (rootcellarref15_Read.j1 kj1 a0 bt138.1 t140 t141 t142 true) else (if t140 < 0 then (rootcellarref15_Read.j1 kj1 a0 bt138.1 t140 t141 t142 true) else (if t141 < 0 then (rootcellarref15_Read.j1 kj1 a0 bt138.1 t140 t141 t142 true) else (if t142 < 0 then (rootcellarref15_Read.j1 kj1 a0 bt138.1 t140 t141 t142 true) else (if t140 > 23 then (rootcellarref15_Read.j1 kj1 a0 bt138.1 t140 t141 t142 true) else (if t141 > 59 then (rootcellarref15_Read.j1 kj1 a0 bt138.1 t140 t141 t142 true) else (rootcellarref15_Read.j1 kj1 a0 bt138.1 t140 t141 t142 (decide (t142 > 59))))))))) else (rootcellarref15_Read.j1 kj1 a0 bt138.1 t140 t141 t142 true))) else (none)) else (none))) else (none)) else (none)) else (none))) else (none)) else (none)) else (none)))) else (none)) else (none)) else (none)) = some (r1, r2) := by first | (rw [hji14] at H; exact H) | (simp only [hji14] at H ⊢; exact H)
         (try rw [hji14] at A8)
         (try rw [hji14] at A13)
         have hji14w : (IntKind.i64.wrap ((ji5) + 4)) = ji14 := (i64_w _).trans hji14
         by_cases c15 : 0 ≤ (ji14)
         ·rw [if_pos c15] at H
          have c15b0 := eq_true c15
          have c15b1 : decide (0 ≤ (ji14)) = true := decide_eq_true c15
          clear c15
          by_cases c16 : (ji14) ≤ (wrap64 ((ji5) + 6))
          ·rw [if_pos c16] at H
           have c16b0 := eq_true c16
           have c16b1 : decide ((ji14) ≤ (wrap64 ((ji5) + 6))) = true := decide_eq_true c16
           by_cases c17 : (wrap64 ((ji5) + 6)) ≤ (a0.size : Int)
           ·rw [if_pos c17] at H
            have c17b0 := eq_true c17
            have c17b1 : decide ((wrap64 ((ji5) + 6)) ≤ (a0.size : Int)) = true := decide_eq_true c17
            replace H := Option.bind_eq_some_iff.mp H
            obtain ⟨t137, A180, H⟩ := H
            replace H : ((rootcellarref15_Day.f kj1 t135 t136 t137).bind fun bt138 => (if 0 ≤ (wrap64 ((ji5) + 7)) then (if (wrap64 ((ji5) + 7)) ≤ (wrap64 ((ji5) + 9)) then (if (wrap64 ((ji5) + 9)) ≤ (a0.size : Int) then ((rootcellarref15_number.f kj1 (a0.extract ((wrap64 ((ji5) + 7)) : Int).toNat ((wrap64 ((ji5) + 9)) : Int).toNat)).bind fun t140 => (if 0 ≤ (wrap64 ((ji5) + 10)) then (if (wrap64 ((ji5) + 10)) ≤ (wrap64 ((ji5) + 12)) then (if (wrap64 ((ji5) + 12)) ≤ (a0.size : Int) then ((rootcellarref15_number.f kj1 (a0.extract ((wrap64 ((ji5) + 10)) : Int).toNat ((wrap64 ((ji5) + 12)) : Int).toNat)).bind fun t141 => (if 0 ≤ (wrap64 ((ji5) + 13)) then (if (wrap64 ((ji5) + 13)) ≤ (a0.size : Int) then ((rootcellarref15_number.f kj1 (a0.extract ((wrap64 ((ji5) + 13)) : Int).toNat a0.size)).bind fun t142 => (if bt138.2 = true then (if bt138.1 > 213503982334601 then (rootcellarref15_Read.j1 kj1 a0 bt138.1 t140 t141 t142 true) else (if t140 < 0 then (rootcellarref15_Read.j1 kj1 a0 bt138.1 t140 t141 t142 true) else (if t141 < 0 then (rootcellarref15_Read.j1 kj1 a0 bt138.1 t140 t141 t142 true) else (if t142 < 0 then (rootcellarref15_Read.j1 kj1 a0 bt138.1 t140 t141 t142 true) else (if t140 > 23 then (rootcellarref15_Read.j1 kj1 a0 bt138.1 t140 t141 t142 true) else (if t141 > 59 then (rootcellarref15_Read.j1 kj1 a0 bt138.1 t140 t141 t142 true) else (rootcellarref15_Read.j1 kj1 a0 bt138.1 t140 t141 t142 (decide (t142 > 59))))))))) else (rootcellarref15_Read.j1 kj1 a0 bt138.1 t140 t141 t142 true))) else (none)) else (none))) else (none)) else (none)) else (none))) else (none)) else (none)) else (none))) = some (r1, r2) := H
            have A18 := Aside0.mk A180
            clear A180
            replace H := Option.bind_eq_some_iff.mp H
            obtain ⟨⟨t138, t139⟩, A190, H⟩ := H
            replace H : (if 0 ≤ (wrap64 ((ji5) + 7)) then (if (wrap64 ((ji5) + 7)) ≤ (wrap64 ((ji5) + 9)) then (if (wrap64 ((ji5) + 9)) ≤ (a0.size : Int) then ((rootcellarref15_number.f kj1 (a0.extract ((wrap64 ((ji5) + 7)) : Int).toNat ((wrap64 ((ji5) + 9)) : Int).toNat)).bind fun t140 => (if 0 ≤ (wrap64 ((ji5) + 10)) then (if (wrap64 ((ji5) + 10)) ≤ (wrap64 ((ji5) + 12)) then (if (wrap64 ((ji5) + 12)) ≤ (a0.size : Int) then ((rootcellarref15_number.f kj1 (a0.extract ((wrap64 ((ji5) + 10)) : Int).toNat ((wrap64 ((ji5) + 12)) : Int).toNat)).bind fun t141 => (if 0 ≤ (wrap64 ((ji5) + 13)) then (if (wrap64 ((ji5) + 13)) ≤ (a0.size : Int) then ((rootcellarref15_number.f kj1 (a0.extract ((wrap64 ((ji5) + 13)) : Int).toNat a0.size)).bind fun t142 => (if t139 = true then (if t138 > 213503982334601 then (rootcellarref15_Read.j1 kj1 a0 t138 t140 t141 t142 true) else (if t140 < 0 then (rootcellarref15_Read.j1 kj1 a0 t138 t140 t141 t142 true) else (if t141 < 0 then (rootcellarref15_Read.j1 kj1 a0 t138 t140 t141 t142 true) else (if t142 < 0 then (rootcellarref15_Read.j1 kj1 a0 t138 t140 t141 t142 true) else (if t140 > 23 then (rootcellarref15_Read.j1 kj1 a0 t138 t140 t141 t142 true) else (if t141 > 59 then (rootcellarref15_Read.j1 kj1 a0 t138 t140 t141 t142 true) else (rootcellarref15_Read.j1 kj1 a0 t138 t140 t141 t142 (decide (t142 > 59))))))))) else (rootcellarref15_Read.j1 kj1 a0 t138 t140 t141 t142 true))) else (none)) else (none))) else (none)) else (none)) else (none))) else (none)) else (none)) else (none)) = some (r1, r2) := H
            have A19 := Aside0.mk A190
            clear A190
            obtain ⟨ji20, hji20⟩ : ∃ j_ : Int, (wrap64 ((ji5) + 7)) = j_ := ⟨_, rfl⟩
            replace H : (if 0 ≤ (ji20) then (if (ji20) ≤ (wrap64 ((ji5) + 9)) then (if (wrap64 ((ji5) + 9)) ≤ (a0.size : Int) then ((rootcellarref15_number.f kj1 (a0.extract ((ji20) : Int).toNat ((wrap64 ((ji5) + 9)) : Int).toNat)).bind fun t140 => (if 0 ≤ (wrap64 ((ji5) + 10)) then (if (wrap64 ((ji5) + 10)) ≤ (wrap64 ((ji5) + 12)) then (if (wrap64 ((ji5) + 12)) ≤ (a0.size : Int) then ((rootcellarref15_number.f kj1 (a0.extract ((wrap64 ((ji5) + 10)) : Int).toNat ((wrap64 ((ji5) + 12)) : Int).toNat)).bind fun t141 => (if 0 ≤ (wrap64 ((ji5) + 13)) then (if (wrap64 ((ji5) + 13)) ≤ (a0.size : Int) then ((rootcellarref15_number.f kj1 (a0.extract ((wrap64 ((ji5) + 13)) : Int).toNat a0.size)).bind fun t142 => (if t139 = true then (if t138 > 213503982334601 then (rootcellarref15_Read.j1 kj1 a0 t138 t140 t141 t142 true) else (if t140 < 0 then (rootcellarref15_Read.j1 kj1 a0 t138 t140 t141 t142 true) else (if t141 < 0 then (rootcellarref15_Read.j1 kj1 a0 t138 t140 t141 t142 true) else (if t142 < 0 then (rootcellarref15_Read.j1 kj1 a0 t138 t140 t141 t142 true) else (if t140 > 23 then (rootcellarref15_Read.j1 kj1 a0 t138 t140 t141 t142 true) else (if t141 > 59 then (rootcellarref15_Read.j1 kj1 a0 t138 t140 t141 t142 true) else (rootcellarref15_Read.j1 kj1 a0 t138 t140 t141 t142 (decide (t142 > 59))))))))) else (rootcellarref15_Read.j1 kj1 a0 t138 t140 t141 t142 true))) else (none)) else (none))) else (none)) else (none)) else (none))) else (none)) else (none)) else (none)) = some (r1, r2) := by first | (rw [hji20] at H; exact H) | (simp only [hji20] at H ⊢; exact H)
            (try rw [hji20] at A8)
            (try rw [hji20] at A13)
            (try rw [hji20] at A18)
            (try rw [hji20] at A19)
            have hji20w : (IntKind.i64.wrap ((ji5) + 7)) = ji20 := (i64_w _).trans hji20
            by_cases c21 : 0 ≤ (ji20)
            ·rw [if_pos c21] at H
             have c21b0 := eq_true c21
             have c21b1 : decide (0 ≤ (ji20)) = true := decide_eq_true c21
             clear c21
             by_cases c22 : (ji20) ≤ (wrap64 ((ji5) + 9))
             ·rw [if_pos c22] at H
              have c22b0 := eq_true c22
              have c22b1 : decide ((ji20) ≤ (wrap64 ((ji5) + 9))) = true := decide_eq_true c22
              by_cases c23 : (wrap64 ((ji5) + 9)) ≤ (a0.size : Int)
              ·rw [if_pos c23] at H
               have c23b0 := eq_true c23
               have c23b1 : decide ((wrap64 ((ji5) + 9)) ≤ (a0.size : Int)) = true := decide_eq_true c23
               replace H := Option.bind_eq_some_iff.mp H
               obtain ⟨t140, A240, H⟩ := H
               replace H : (if 0 ≤ (wrap64 ((ji5) + 10)) then (if (wrap64 ((ji5) + 10)) ≤ (wrap64 ((ji5) + 12)) then (if (wrap64 ((ji5) + 12)) ≤ (a0.size : Int) then ((rootcellarref15_number.f kj1 (a0.extract ((wrap64 ((ji5) + 10)) : Int).toNat ((wrap64 ((ji5) + 12)) : Int).toNat)).bind fun t141 => (if 0 ≤ (wrap64 ((ji5) + 13)) then (if (wrap64 ((ji5) + 13)) ≤ (a0.size : Int) then ((rootcellarref15_number.f kj1 (a0.extract ((wrap64 ((ji5) + 13)) : Int).toNat a0.size)).bind fun t142 => (if t139 = true then (if t138 > 213503982334601 then (rootcellarref15_Read.j1 kj1 a0 t138 t140 t141 t142 true) else (if t140 < 0 then (rootcellarref15_Read.j1 kj1 a0 t138 t140 t141 t142 true) else (if t141 < 0 then (rootcellarref15_Read.j1 kj1 a0 t138 t140 t141 t142 true) else (if t142 < 0 then (rootcellarref15_Read.j1 kj1 a0 t138 t140 t141 t142 true) else (if t140 > 23 then (rootcellarref15_Read.j1 kj1 a0 t138 t140 t141 t142 true) else (if t141 > 59 then (rootcellarref15_Read.j1 kj1 a0 t138 t140 t141 t142 true) else (rootcellarref15_Read.j1 kj1 a0 t138 t140 t141 t142 (decide (t142 > 59))))))))) else (rootcellarref15_Read.j1 kj1 a0 t138 t140 t141 t142 true))) else (none)) else (none))) else (none)) else (none)) else (none)) = some (r1, r2) := H
               have A24 := Aside0.mk A240
               clear A240
               obtain ⟨ji25, hji25⟩ : ∃ j_ : Int, (wrap64 ((ji5) + 10)) = j_ := ⟨_, rfl⟩
               replace H : (if 0 ≤ (ji25) then (if (ji25) ≤ (wrap64 ((ji5) + 12)) then (if (wrap64 ((ji5) + 12)) ≤ (a0.size : Int) then ((rootcellarref15_number.f kj1 (a0.extract ((ji25) : Int).toNat ((wrap64 ((ji5) + 12)) : Int).toNat)).bind fun t141 => (if 0 ≤ (wrap64 ((ji5) + 13)) then (if (wrap64 ((ji5) + 13)) ≤ (a0.size : Int) then ((rootcellarref15_number.f kj1 (a0.extract ((wrap64 ((ji5) + 13)) : Int).toNat a0.size)).bind fun t142 => (if t139 = true then (if t138 > 213503982334601 then (rootcellarref15_Read.j1 kj1 a0 t138 t140 t141 t142 true) else (if t140 < 0 then (rootcellarref15_Read.j1 kj1 a0 t138 t140 t141 t142 true) else (if t141 < 0 then (rootcellarref15_Read.j1 kj1 a0 t138 t140 t141 t142 true) else (if t142 < 0 then (rootcellarref15_Read.j1 kj1 a0 t138 t140 t141 t142 true) else (if t140 > 23 then (rootcellarref15_Read.j1 kj1 a0 t138 t140 t141 t142 true) else (if t141 > 59 then (rootcellarref15_Read.j1 kj1 a0 t138 t140 t141 t142 true) else (rootcellarref15_Read.j1 kj1 a0 t138 t140 t141 t142 (decide (t142 > 59))))))))) else (rootcellarref15_Read.j1 kj1 a0 t138 t140 t141 t142 true))) else (none)) else (none))) else (none)) else (none)) else (none)) = some (r1, r2) := by first | (rw [hji25] at H; exact H) | (simp only [hji25] at H ⊢; exact H)
               (try rw [hji25] at A8)
               (try rw [hji25] at A13)
               (try rw [hji25] at A18)
               (try rw [hji25] at A19)
               (try rw [hji25] at A24)
               have hji25w : (IntKind.i64.wrap ((ji5) + 10)) = ji25 := (i64_w _).trans hji25
               by_cases c26 : 0 ≤ (ji25)
               ·rw [if_pos c26] at H
                have c26b0 := eq_true c26
                have c26b1 : decide (0 ≤ (ji25)) = true := decide_eq_true c26
                clear c26
                by_cases c27 : (ji25) ≤ (wrap64 ((ji5) + 12))
                ·rw [if_pos c27] at H
                 have c27b0 := eq_true c27
                 have c27b1 : decide ((ji25) ≤ (wrap64 ((ji5) + 12))) = true := decide_eq_true c27
                 by_cases c28 : (wrap64 ((ji5) + 12)) ≤ (a0.size : Int)
                 ·rw [if_pos c28] at H
                  have c28b0 := eq_true c28
                  have c28b1 : decide ((wrap64 ((ji5) + 12)) ≤ (a0.size : Int)) = true := decide_eq_true c28
                  replace H := Option.bind_eq_some_iff.mp H
                  obtain ⟨t141, A290, H⟩ := H
                  replace H : (if 0 ≤ (wrap64 ((ji5) + 13)) then (if (wrap64 ((ji5) + 13)) ≤ (a0.size : Int) then ((rootcellarref15_number.f kj1 (a0.extract ((wrap64 ((ji5) + 13)) : Int).toNat a0.size)).bind fun t142 => (if t139 = true then (if t138 > 213503982334601 then (rootcellarref15_Read.j1 kj1 a0 t138 t140 t141 t142 true) else (if t140 < 0 then (rootcellarref15_Read.j1 kj1 a0 t138 t140 t141 t142 true) else (if t141 < 0 then (rootcellarref15_Read.j1 kj1 a0 t138 t140 t141 t142 true) else (if t142 < 0 then (rootcellarref15_Read.j1 kj1 a0 t138 t140 t141 t142 true) else (if t140 > 23 then (rootcellarref15_Read.j1 kj1 a0 t138 t140 t141 t142 true) else (if t141 > 59 then (rootcellarref15_Read.j1 kj1 a0 t138 t140 t141 t142 true) else (rootcellarref15_Read.j1 kj1 a0 t138 t140 t141 t142 (decide (t142 > 59))))))))) else (rootcellarref15_Read.j1 kj1 a0 t138 t140 t141 t142 true))) else (none)) else (none)) = some (r1, r2) := H
                  have A29 := Aside0.mk A290
                  clear A290
                  obtain ⟨ji30, hji30⟩ : ∃ j_ : Int, (wrap64 ((ji5) + 13)) = j_ := ⟨_, rfl⟩
                  replace H : (if 0 ≤ (ji30) then (if (ji30) ≤ (a0.size : Int) then ((rootcellarref15_number.f kj1 (a0.extract ((ji30) : Int).toNat a0.size)).bind fun t142 => (if t139 = true then (if t138 > 213503982334601 then (rootcellarref15_Read.j1 kj1 a0 t138 t140 t141 t142 true) else (if t140 < 0 then (rootcellarref15_Read.j1 kj1 a0 t138 t140 t141 t142 true) else (if t141 < 0 then (rootcellarref15_Read.j1 kj1 a0 t138 t140 t141 t142 true) else (if t142 < 0 then (rootcellarref15_Read.j1 kj1 a0 t138 t140 t141 t142 true) else (if t140 > 23 then (rootcellarref15_Read.j1 kj1 a0 t138 t140 t141 t142 true) else (if t141 > 59 then (rootcellarref15_Read.j1 kj1 a0 t138 t140 t141 t142 true) else (rootcellarref15_Read.j1 kj1 a0 t138 t140 t141 t142 (decide (t142 > 59))))))))) else (rootcellarref15_Read.j1 kj1 a0 t138 t140 t141 t142 true))) else (none)) else (none)) = some (r1, r2) := by first | (rw [hji30] at H; exact H) | (simp only [hji30] at H ⊢; exact H)
                  (try rw [hji30] at A8)
                  (try rw [hji30] at A13)
                  (try rw [hji30] at A18)
                  (try rw [hji30] at A19)
                  (try rw [hji30] at A24)
                  (try rw [hji30] at A29)
                  have hji30w : (IntKind.i64.wrap ((ji5) + 13)) = ji30 := (i64_w _).trans hji30
                  by_cases c31 : 0 ≤ (ji30)
                  ·rw [if_pos c31] at H
                   have c31b0 := eq_true c31
                   have c31b1 : decide (0 ≤ (ji30)) = true := decide_eq_true c31
                   clear c31
                   by_cases c32 : (ji30) ≤ (a0.size : Int)
                   ·rw [if_pos c32] at H
                    have c32b0 := eq_true c32
                    have c32b1 : decide ((ji30) ≤ (a0.size : Int)) = true := decide_eq_true c32
                    clear c32
                    replace H := Option.bind_eq_some_iff.mp H
                    obtain ⟨t142, A330, H⟩ := H
                    replace H : (if t139 = true then (if t138 > 213503982334601 then (rootcellarref15_Read.j1 kj1 a0 t138 t140 t141 t142 true) else (if t140 < 0 then (rootcellarref15_Read.j1 kj1 a0 t138 t140 t141 t142 true) else (if t141 < 0 then (rootcellarref15_Read.j1 kj1 a0 t138 t140 t141 t142 true) else (if t142 < 0 then (rootcellarref15_Read.j1 kj1 a0 t138 t140 t141 t142 true) else (if t140 > 23 then (rootcellarref15_Read.j1 kj1 a0 t138 t140 t141 t142 true) else (if t141 > 59 then (rootcellarref15_Read.j1 kj1 a0 t138 t140 t141 t142 true) else (rootcellarref15_Read.j1 kj1 a0 t138 t140 t141 t142 (decide (t142 > 59))))))))) else (rootcellarref15_Read.j1 kj1 a0 t138 t140 t141 t142 true)) = some (r1, r2) := H
                    have A33 := Aside0.mk A330
                    clear A330
                    have HC34 := Aside0.mk H
                    clear H
                    go_upto_region 9 with (first | (go_at_call 16; (with_reducible refine (rootcellarref15_number.calls kj1 (a0.extract 0 ((ji5) : Int).toNat) t135 _ A8.out).mono ?_); rintro e w' ⟨rfl, ⟨nd, rfl⟩⟩; (try first | exact ⟨rfl, _, World.drewN_drewN _ _ _⟩ | exact ⟨rfl, _, Eq.trans (World.drewN_drewN _ _ _) (congrArg (World.drewN _) (Nat.add_assoc _ _ _))⟩)) | (go_at_call 16; (with_reducible refine (rootcellarref15_number.calls kj1 (a0.extract ((ji9) : Int).toNat ((wrap64 ((ji5) + 3)) : Int).toNat) t136 _ A13.out).mono ?_); rintro e w' ⟨rfl, ⟨nd, rfl⟩⟩; (try first | exact ⟨rfl, _, World.drewN_drewN _ _ _⟩ | exact ⟨rfl, _, Eq.trans (World.drewN_drewN _ _ _) (congrArg (World.drewN _) (Nat.add_assoc _ _ _))⟩)) | (go_at_call 16; (with_reducible refine (rootcellarref15_number.calls kj1 (a0.extract ((ji14) : Int).toNat ((wrap64 ((ji5) + 6)) : Int).toNat) t137 _ A18.out).mono ?_); rintro e w' ⟨rfl, ⟨nd, rfl⟩⟩; (try first | exact ⟨rfl, _, World.drewN_drewN _ _ _⟩ | exact ⟨rfl, _, Eq.trans (World.drewN_drewN _ _ _) (congrArg (World.drewN _) (Nat.add_assoc _ _ _))⟩)) | (go_at_call 15; (with_reducible refine (rootcellarref15_Day.calls kj1 t135 t136 t137 t138 t139 _ A19.out).mono ?_); rintro e w' ⟨rfl, ⟨nd, rfl⟩⟩; (try first | exact ⟨rfl, _, World.drewN_drewN _ _ _⟩ | exact ⟨rfl, _, Eq.trans (World.drewN_drewN _ _ _) (congrArg (World.drewN _) (Nat.add_assoc _ _ _))⟩)) | (go_at_call 16; (with_reducible refine (rootcellarref15_number.calls kj1 (a0.extract ((ji20) : Int).toNat ((wrap64 ((ji5) + 9)) : Int).toNat) t140 _ A24.out).mono ?_); rintro e w' ⟨rfl, ⟨nd, rfl⟩⟩; (try first | exact ⟨rfl, _, World.drewN_drewN _ _ _⟩ | exact ⟨rfl, _, Eq.trans (World.drewN_drewN _ _ _) (congrArg (World.drewN _) (Nat.add_assoc _ _ _))⟩)) | (go_at_call 16; (with_reducible refine (rootcellarref15_number.calls kj1 (a0.extract ((ji25) : Int).toNat ((wrap64 ((ji5) + 12)) : Int).toNat) t141 _ A29.out).mono ?_); rintro e w' ⟨rfl, ⟨nd, rfl⟩⟩; (try first | exact ⟨rfl, _, World.drewN_drewN _ _ _⟩ | exact ⟨rfl, _, Eq.trans (World.drewN_drewN _ _ _) (congrArg (World.drewN _) (Nat.add_assoc _ _ _))⟩)) | (go_at_call 16; (with_reducible refine (rootcellarref15_number.calls kj1 (a0.extract ((ji30) : Int).toNat a0.size) t142 _ A33.out).mono ?_); rintro e w' ⟨rfl, ⟨nd, rfl⟩⟩; (try first | exact ⟨rfl, _, World.drewN_drewN _ _ _⟩ | exact ⟨rfl, _, Eq.trans (World.drewN_drewN _ _ _) (congrArg (World.drewN _) (Nat.add_assoc _ _ _))⟩)))
                    repeat (go_quiet (first | (go_at_call 16; (with_reducible refine (rootcellarref15_number.calls kj1 (a0.extract 0 ((ji5) : Int).toNat) t135 _ A8.out).mono ?_); rintro e w' ⟨rfl, ⟨nd, rfl⟩⟩; (try first | exact ⟨rfl, _, World.drewN_drewN _ _ _⟩ | exact ⟨rfl, _, Eq.trans (World.drewN_drewN _ _ _) (congrArg (World.drewN _) (Nat.add_assoc _ _ _))⟩)) | (go_at_call 16; (with_reducible refine (rootcellarref15_number.calls kj1 (a0.extract ((ji9) : Int).toNat ((wrap64 ((ji5) + 3)) : Int).toNat) t136 _ A13.out).mono ?_); rintro e w' ⟨rfl, ⟨nd, rfl⟩⟩; (try first | exact ⟨rfl, _, World.drewN_drewN _ _ _⟩ | exact ⟨rfl, _, Eq.trans (World.drewN_drewN _ _ _) (congrArg (World.drewN _) (Nat.add_assoc _ _ _))⟩)) | (go_at_call 16; (with_reducible refine (rootcellarref15_number.calls kj1 (a0.extract ((ji14) : Int).toNat ((wrap64 ((ji5) + 6)) : Int).toNat) t137 _ A18.out).mono ?_); rintro e w' ⟨rfl, ⟨nd, rfl⟩⟩; (try first | exact ⟨rfl, _, World.drewN_drewN _ _ _⟩ | exact ⟨rfl, _, Eq.trans (World.drewN_drewN _ _ _) (congrArg (World.drewN _) (Nat.add_assoc _ _ _))⟩)) | (go_at_call 15; (with_reducible refine (rootcellarref15_Day.calls kj1 t135 t136 t137 t138 t139 _ A19.out).mono ?_); rintro e w' ⟨rfl, ⟨nd, rfl⟩⟩; (try first | exact ⟨rfl, _, World.drewN_drewN _ _ _⟩ | exact ⟨rfl, _, Eq.trans (World.drewN_drewN _ _ _) (congrArg (World.drewN _) (Nat.add_assoc _ _ _))⟩)) | (go_at_call 16; (with_reducible refine (rootcellarref15_number.calls kj1 (a0.extract ((ji20) : Int).toNat ((wrap64 ((ji5) + 9)) : Int).toNat) t140 _ A24.out).mono ?_); rintro e w' ⟨rfl, ⟨nd, rfl⟩⟩; (try first | exact ⟨rfl, _, World.drewN_drewN _ _ _⟩ | exact ⟨rfl, _, Eq.trans (World.drewN_drewN _ _ _) (congrArg (World.drewN _) (Nat.add_assoc _ _ _))⟩)) | (go_at_call 16; (with_reducible refine (rootcellarref15_number.calls kj1 (a0.extract ((ji25) : Int).toNat ((wrap64 ((ji5) + 12)) : Int).toNat) t141 _ A29.out).mono ?_); rintro e w' ⟨rfl, ⟨nd, rfl⟩⟩; (try first | exact ⟨rfl, _, World.drewN_drewN _ _ _⟩ | exact ⟨rfl, _, Eq.trans (World.drewN_drewN _ _ _) (congrArg (World.drewN _) (Nat.add_assoc _ _ _))⟩)) | (go_at_call 16; (with_reducible refine (rootcellarref15_number.calls kj1 (a0.extract ((ji30) : Int).toNat a0.size) t142 _ A33.out).mono ?_); rintro e w' ⟨rfl, ⟨nd, rfl⟩⟩; (try first | exact ⟨rfl, _, World.drewN_drewN _ _ _⟩ | exact ⟨rfl, _, Eq.trans (World.drewN_drewN _ _ _) (congrArg (World.drewN _) (Nat.add_assoc _ _ _))⟩))); go_upto_region 9 with (first | (go_at_call 16; (with_reducible refine (rootcellarref15_number.calls kj1 (a0.extract 0 ((ji5) : Int).toNat) t135 _ A8.out).mono ?_); rintro e w' ⟨rfl, ⟨nd, rfl⟩⟩; (try first | exact ⟨rfl, _, World.drewN_drewN _ _ _⟩ | exact ⟨rfl, _, Eq.trans (World.drewN_drewN _ _ _) (congrArg (World.drewN _) (Nat.add_assoc _ _ _))⟩)) | (go_at_call 16; (with_reducible refine (rootcellarref15_number.calls kj1 (a0.extract ((ji9) : Int).toNat ((wrap64 ((ji5) + 3)) : Int).toNat) t136 _ A13.out).mono ?_); rintro e w' ⟨rfl, ⟨nd, rfl⟩⟩; (try first | exact ⟨rfl, _, World.drewN_drewN _ _ _⟩ | exact ⟨rfl, _, Eq.trans (World.drewN_drewN _ _ _) (congrArg (World.drewN _) (Nat.add_assoc _ _ _))⟩)) | (go_at_call 16; (with_reducible refine (rootcellarref15_number.calls kj1 (a0.extract ((ji14) : Int).toNat ((wrap64 ((ji5) + 6)) : Int).toNat) t137 _ A18.out).mono ?_); rintro e w' ⟨rfl, ⟨nd, rfl⟩⟩; (try first | exact ⟨rfl, _, World.drewN_drewN _ _ _⟩ | exact ⟨rfl, _, Eq.trans (World.drewN_drewN _ _ _) (congrArg (World.drewN _) (Nat.add_assoc _ _ _))⟩)) | (go_at_call 15; (with_reducible refine (rootcellarref15_Day.calls kj1 t135 t136 t137 t138 t139 _ A19.out).mono ?_); rintro e w' ⟨rfl, ⟨nd, rfl⟩⟩; (try first | exact ⟨rfl, _, World.drewN_drewN _ _ _⟩ | exact ⟨rfl, _, Eq.trans (World.drewN_drewN _ _ _) (congrArg (World.drewN _) (Nat.add_assoc _ _ _))⟩)) | (go_at_call 16; (with_reducible refine (rootcellarref15_number.calls kj1 (a0.extract ((ji20) : Int).toNat ((wrap64 ((ji5) + 9)) : Int).toNat) t140 _ A24.out).mono ?_); rintro e w' ⟨rfl, ⟨nd, rfl⟩⟩; (try first | exact ⟨rfl, _, World.drewN_drewN _ _ _⟩ | exact ⟨rfl, _, Eq.trans (World.drewN_drewN _ _ _) (congrArg (World.drewN _) (Nat.add_assoc _ _ _))⟩)) | (go_at_call 16; (with_reducible refine (rootcellarref15_number.calls kj1 (a0.extract ((ji25) : Int).toNat ((wrap64 ((ji5) + 12)) : Int).toNat) t141 _ A29.out).mono ?_); rintro e w' ⟨rfl, ⟨nd, rfl⟩⟩; (try first | exact ⟨rfl, _, World.drewN_drewN _ _ _⟩ | exact ⟨rfl, _, Eq.trans (World.drewN_drewN _ _ _) (congrArg (World.drewN _) (Nat.add_assoc _ _ _))⟩)) | (go_at_call 16; (with_reducible refine (rootcellarref15_number.calls kj1 (a0.extract ((ji30) : Int).toNat a0.size) t142 _ A33.out).mono ?_); rintro e w' ⟨rfl, ⟨nd, rfl⟩⟩; (try first | exact ⟨rfl, _, World.drewN_drewN _ _ _⟩ | exact ⟨rfl, _, Eq.trans (World.drewN_drewN _ _ _) (congrArg (World.drewN _) (Nat.add_assoc _ _ _))⟩))))
                    (try simp only [Act.put, List.setIfInBounds_toArray, List.set_cons_zero, List.set_cons_succ])
                    go_cut [92] (fun v92 wc => ∃ (kq : Nat) (x92_33 : Bool), v92 = .bool x92_33 ∧ Aside0 (rootcellarref15_Read.j1 kq a0 t138 t140 t141 t142 x92_33 = some (r1, r2)) ∧ Aside0 (kq ≤ kj1) ∧ Drawn0 w wc)
                    case first =>
                     have H := HC34.out
                     clear HC34
                     by_cases c35 : t139 = true
                     ·subst c35
                      have H1 : (if t138 > 213503982334601 then (rootcellarref15_Read.j1 kj1 a0 t138 t140 t141 t142 true) else (if t140 < 0 then (rootcellarref15_Read.j1 kj1 a0 t138 t140 t141 t142 true) else (if t141 < 0 then (rootcellarref15_Read.j1 kj1 a0 t138 t140 t141 t142 true) else (if t142 < 0 then (rootcellarref15_Read.j1 kj1 a0 t138 t140 t141 t142 true) else (if t140 > 23 then (rootcellarref15_Read.j1 kj1 a0 t138 t140 t141 t142 true) else (if t141 > 59 then (rootcellarref15_Read.j1 kj1 a0 t138 t140 t141 t142 true) else (rootcellarref15_Read.j1 kj1 a0 t138 t140 t141 t142 (decide (t142 > 59))))))))) = some (r1, r2) := by rw [if_pos rfl] at H; exact H
                      clear H
                      have H := H1
                      clear H1
                      by_cases c36 : t138 > 213503982334601
                      ·rw [if_pos c36] at H
                       have c36b0 : decide (213503982334601 < t138) = true := decide_eq_true c36
                       clear c36
                       (first | rw [c36b0] | (simp only [i64_w, i32_w]; rw [c36b0]) | skip)
                       have H' := Aside0.mk H
                       clear H
                       go_wp2
                       repeat (go_quiet (fail); try go_wp2)
                       go_meet
                       case rel => exact ⟨_, (true), (by first | rfl | (simp; done) | (simp [*]; done)), H', ⟨by have := HJ1.out; first | omega | exact Nat.le_refl _⟩, by repeat (first | exact Drawn0.refl _ | apply Drawn0.step)⟩
                      ·rw [if_neg c36] at H
                       have c36b0 : decide (213503982334601 < t138) = false := decide_eq_false c36
                       clear c36
                       (first | rw [c36b0] | (simp only [i64_w, i32_w]; rw [c36b0]) | skip)
                       by_cases c37 : t140 < 0
                       ·rw [if_pos c37] at H
                        have c37b0 : decide (t140 < 0) = true := decide_eq_true c37
                        clear c37
                        have H' := Aside0.mk H
                        clear H
                        go_wp2
                        repeat (go_quiet (fail); try go_wp2)
                        go_meet
                        case rel => exact ⟨_, (true), (by first | rfl | (simp; done) | (simp [*]; done)), H', ⟨by have := HJ1.out; first | omega | exact Nat.le_refl _⟩, by repeat (first | exact Drawn0.refl _ | apply Drawn0.step)⟩
                       ·rw [if_neg c37] at H
                        have c37b0 : decide (t140 < 0) = false := decide_eq_false c37
                        clear c37
                        by_cases c38 : t141 < 0
                        ·rw [if_pos c38] at H
                         have c38b0 : decide (t141 < 0) = true := decide_eq_true c38
                         clear c38
                         have H' := Aside0.mk H
                         clear H
                         go_wp2
                         repeat (go_quiet (fail); try go_wp2)
                         go_meet
                         case rel => exact ⟨_, (true), (by first | rfl | (simp; done) | (simp [*]; done)), H', ⟨by have := HJ1.out; first | omega | exact Nat.le_refl _⟩, by repeat (first | exact Drawn0.refl _ | apply Drawn0.step)⟩
                        ·rw [if_neg c38] at H
                         have c38b0 : decide (t141 < 0) = false := decide_eq_false c38
                         clear c38
                         by_cases c39 : t142 < 0
                         ·rw [if_pos c39] at H
                          have c39b0 : decide (t142 < 0) = true := decide_eq_true c39
                          clear c39
                          have H' := Aside0.mk H
                          clear H
                          go_wp2
                          repeat (go_quiet (fail); try go_wp2)
                          go_meet
                          case rel => exact ⟨_, (true), (by first | rfl | (simp; done) | (simp [*]; done)), H', ⟨by have := HJ1.out; first | omega | exact Nat.le_refl _⟩, by repeat (first | exact Drawn0.refl _ | apply Drawn0.step)⟩
                         ·rw [if_neg c39] at H
                          have c39b0 : decide (t142 < 0) = false := decide_eq_false c39
                          clear c39
                          by_cases c40 : t140 > 23
                          ·rw [if_pos c40] at H
                           have c40b0 : decide (23 < t140) = true := decide_eq_true c40
                           clear c40
                           have H' := Aside0.mk H
                           clear H
                           go_wp2
                           repeat (go_quiet (fail); try go_wp2)
                           go_meet
                           case rel => exact ⟨_, (true), (by first | rfl | (simp; done) | (simp [*]; done)), H', ⟨by have := HJ1.out; first | omega | exact Nat.le_refl _⟩, by repeat (first | exact Drawn0.refl _ | apply Drawn0.step)⟩
                          ·rw [if_neg c40] at H
                           have c40b0 : decide (23 < t140) = false := decide_eq_false c40
                           clear c40
                           by_cases c41 : t141 > 59
                           ·rw [if_pos c41] at H
                            have c41b0 : decide (59 < t141) = true := decide_eq_true c41
                            clear c41
                            have H' := Aside0.mk H
                            clear H
                            go_wp2
                            repeat (go_quiet (fail); try go_wp2)
                            go_meet
                            case rel => exact ⟨_, (true), (by first | rfl | (simp; done) | (simp [*]; done)), H', ⟨by have := HJ1.out; first | omega | exact Nat.le_refl _⟩, by repeat (first | exact Drawn0.refl _ | apply Drawn0.step)⟩
                           ·rw [if_neg c41] at H
                            have c41b0 : decide (59 < t141) = false := decide_eq_false c41
                            clear c41
                            have H' := Aside0.mk H
                            clear H
                            go_wp2
                            repeat (go_quiet (fail); try go_wp2)
                            go_meet
                            case rel => exact ⟨_, (decide (t142 > 59)), (by first | rfl | (simp; done) | (simp [*]; done)), H', ⟨by have := HJ1.out; first | omega | exact Nat.le_refl _⟩, by repeat (first | exact Drawn0.refl _ | apply Drawn0.step)⟩
                     ·replace c35 := Bool.eq_false_iff.mpr c35
                      subst c35
                      have H1 : (rootcellarref15_Read.j1 kj1 a0 t138 t140 t141 t142 true) = some (r1, r2) := by rw [if_neg (show ¬ (false = true) by decide)] at H; exact H
                      clear H
                      have H := H1
                      clear H1
                      have H' := Aside0.mk H
                      clear H
                      go_wp2
                      repeat (go_quiet (fail); try go_wp2)
                      go_meet
                      case rel => exact ⟨_, (true), (by first | rfl | (simp; done) | (simp [*]; done)), H', ⟨by have := HJ1.out; first | omega | exact Nat.le_refl _⟩, by repeat (first | exact Drawn0.refl _ | apply Drawn0.step)⟩
                    case rest =>
                     clear HC34
                     try clear c1
                     try clear c2
                     try clear p2
                     try clear c3
                     try clear c3b0
                     try clear c3b1
                     try clear c4
                     try clear c6
                     try clear c6b0
                     try clear c6b1
                     try clear p6
                     try clear c7
                     try clear c7b0
                     try clear c7b1
                     try clear c10
                     try clear c10b0
                     try clear c10b1
                     try clear c11
                     try clear c11b0
                     try clear c11b1
                     try clear c12
                     try clear c12b0
                     try clear c12b1
                     try clear c15
                     try clear c15b0
                     try clear c15b1
                     try clear c16
                     try clear c16b0
                     try clear c16b1
                     try clear c17
                     try clear c17b0
                     try clear c17b1
                     try clear c21
                     try clear c21b0
                     try clear c21b1
                     try clear c22
                     try clear c22b0
                     try clear c22b1
                     try clear c23
                     try clear c23b0
                     try clear c23b1
                     try clear c26
                     try clear c26b0
                     try clear c26b1
                     try clear c27
                     try clear c27b0
                     try clear c27b1
                     try clear c28
                     try clear c28b0
                     try clear c28b1
                     try clear c31
                     try clear c31b0
                     try clear c31b1
                     try clear c32
                     try clear c32b0
                     try clear c32b1
                     try clear c35
                     try clear c36
                     try clear c36b0
                     try clear c37
                     try clear c37b0
                     try clear c38
                     try clear c38b0
                     try clear c39
                     try clear c39b0
                     try clear c40
                     try clear c40b0
                     try clear c41
                     try clear c41b0
                     try clear p2
                     obtain ⟨kq, x92_33, rfl, HA, HJ33, ⟨mc33, rfl⟩⟩ := hcut
                     cases kq with
                     | zero => exact absurd HA.out (by simp [rootcellarref15_Read.j1])
                     | succ kj33 =>
                      have H := HA.out
                      clear HA
                      simp only [rootcellarref15_Read.j1] at H
                      by_cases c42 : x92_33 = true
                      ·subst c42
                       have H1 : (some (0, 2)) = some (r1, r2) := by rw [if_pos rfl] at H; exact H
                       clear H
                       have H := H1
                       clear H1
                       simp only [Option.some.injEq, Prod.mk.injEq] at H
                       obtain ⟨rfl, rfl⟩ := H
                       go_wp2
                       repeat (go_quiet (fail); try go_wp2)
                       go_ret2
                       exact ⟨by first | rfl | (simp; done) | (simp only [← hji5, ← hji9, ← hji14, ← hji20, ← hji25, ← hji30] <;> (first | rfl | simp)) | (simp [*]; done), by repeat (first | exact Drawn0.refl _ | apply Drawn0.step)⟩
                      ·replace c42 := Bool.eq_false_iff.mpr c42
                       subst c42
                       have H1 : ((rootcellarref15_Stamp.f kj33 (IntKind.u64.wrap ((IntKind.u64.wrap ((IntKind.u64.wrap (t138)) * 86400)) + (IntKind.u64.wrap (wrap64 ((wrap64 ((wrap64 (3600 * t140)) + (wrap64 (60 * t141)))) + t142)))))).bind fun t143 => (if t143.toList = a0.toList then (some (IntKind.u64.wrap ((IntKind.u64.wrap ((IntKind.u64.wrap (t138)) * 86400)) + (IntKind.u64.wrap (wrap64 ((wrap64 ((wrap64 (3600 * t140)) + (wrap64 (60 * t141)))) + t142)))), 0)) else (some (0, 2)))) = some (r1, r2) := by rw [if_neg (show ¬ (false = true) by decide)] at H; exact H
                       clear H
                       have H := H1
                       clear H1
                       replace H := Option.bind_eq_some_iff.mp H
                       obtain ⟨t143, A430, H⟩ := H
                       replace H : (if t143.toList = a0.toList then (some (IntKind.u64.wrap ((IntKind.u64.wrap ((IntKind.u64.wrap (t138)) * 86400)) + (IntKind.u64.wrap (wrap64 ((wrap64 ((wrap64 (3600 * t140)) + (wrap64 (60 * t141)))) + t142)))), 0)) else (some (0, 2))) = some (r1, r2) := H
                       have A43 := Aside0.mk A430
                       clear A430
                       by_cases c44 : t143.toList = a0.toList
                       ·rw [if_pos c44] at H
                        have c44b0 : (t143.toList == a0.toList) = true := beq_iff_eq.mpr c44
                        have c44b1 : (t143.toList != a0.toList) = false := bne_eq_false_iff_eq.mpr c44
                        clear c44
                        simp only [Option.some.injEq, Prod.mk.injEq] at H
                        obtain ⟨rfl, rfl⟩ := H
                        go_wp2_with (first | (go_at_call 17; (with_reducible refine (rootcellarref15_Stamp.calls kj33 (IntKind.u64.wrap ((IntKind.u64.wrap ((IntKind.u64.wrap (t138)) * 86400)) + (IntKind.u64.wrap (wrap64 ((wrap64 ((wrap64 (3600 * t140)) + (wrap64 (60 * t141)))) + t142))))) t143 _ A43.out).mono ?_); rintro e w' ⟨rfl, ⟨nd, rfl⟩⟩; (try first | exact ⟨rfl, _, World.drewN_drewN _ _ _⟩ | exact ⟨rfl, _, Eq.trans (World.drewN_drewN _ _ _) (congrArg (World.drewN _) (Nat.add_assoc _ _ _))⟩)))
                        repeat (go_quiet (first | (go_at_call 17; (with_reducible refine (rootcellarref15_Stamp.calls kj33 (IntKind.u64.wrap ((IntKind.u64.wrap ((IntKind.u64.wrap (t138)) * 86400)) + (IntKind.u64.wrap (wrap64 ((wrap64 ((wrap64 (3600 * t140)) + (wrap64 (60 * t141)))) + t142))))) t143 _ A43.out).mono ?_); rintro e w' ⟨rfl, ⟨nd, rfl⟩⟩; (try first | exact ⟨rfl, _, World.drewN_drewN _ _ _⟩ | exact ⟨rfl, _, Eq.trans (World.drewN_drewN _ _ _) (congrArg (World.drewN _) (Nat.add_assoc _ _ _))⟩))); try go_wp2_with (first | (go_at_call 17; (with_reducible refine (rootcellarref15_Stamp.calls kj33 (IntKind.u64.wrap ((IntKind.u64.wrap ((IntKind.u64.wrap (t138)) * 86400)) + (IntKind.u64.wrap (wrap64 ((wrap64 ((wrap64 (3600 * t140)) + (wrap64 (60 * t141)))) + t142))))) t143 _ A43.out).mono ?_); rintro e w' ⟨rfl, ⟨nd, rfl⟩⟩; (try first | exact ⟨rfl, _, World.drewN_drewN _ _ _⟩ | exact ⟨rfl, _, Eq.trans (World.drewN_drewN _ _ _) (congrArg (World.drewN _) (Nat.add_assoc _ _ _))⟩))))
                        go_ret2
                        exact ⟨by first | rfl | (simp; done) | (simp only [← hji5, ← hji9, ← hji14, ← hji20, ← hji25, ← hji30] <;> (first | rfl | simp)) | (simp [*]; done), by repeat (first | exact Drawn0.refl _ | apply Drawn0.step)⟩
                       ·rw [if_neg c44] at H
                        have c44b0 : (t143.toList == a0.toList) = false := beq_eq_false_iff_ne.mpr c44
                        have c44b1 : (t143.toList != a0.toList) = true := bne_iff_ne.mpr c44
                        simp only [Option.some.injEq, Prod.mk.injEq] at H
                        obtain ⟨rfl, rfl⟩ := H
                        go_wp2_with (first | (go_at_call 17; (with_reducible refine (rootcellarref15_Stamp.calls kj33 (IntKind.u64.wrap ((IntKind.u64.wrap ((IntKind.u64.wrap (t138)) * 86400)) + (IntKind.u64.wrap (wrap64 ((wrap64 ((wrap64 (3600 * t140)) + (wrap64 (60 * t141)))) + t142))))) t143 _ A43.out).mono ?_); rintro e w' ⟨rfl, ⟨nd, rfl⟩⟩; (try first | exact ⟨rfl, _, World.drewN_drewN _ _ _⟩ | exact ⟨rfl, _, Eq.trans (World.drewN_drewN _ _ _) (congrArg (World.drewN _) (Nat.add_assoc _ _ _))⟩)))
                        repeat (go_quiet (first | (go_at_call 17; (with_reducible refine (rootcellarref15_Stamp.calls kj33 (IntKind.u64.wrap ((IntKind.u64.wrap ((IntKind.u64.wrap (t138)) * 86400)) + (IntKind.u64.wrap (wrap64 ((wrap64 ((wrap64 (3600 * t140)) + (wrap64 (60 * t141)))) + t142))))) t143 _ A43.out).mono ?_); rintro e w' ⟨rfl, ⟨nd, rfl⟩⟩; (try first | exact ⟨rfl, _, World.drewN_drewN _ _ _⟩ | exact ⟨rfl, _, Eq.trans (World.drewN_drewN _ _ _) (congrArg (World.drewN _) (Nat.add_assoc _ _ _))⟩))); try go_wp2_with (first | (go_at_call 17; (with_reducible refine (rootcellarref15_Stamp.calls kj33 (IntKind.u64.wrap ((IntKind.u64.wrap ((IntKind.u64.wrap (t138)) * 86400)) + (IntKind.u64.wrap (wrap64 ((wrap64 ((wrap64 (3600 * t140)) + (wrap64 (60 * t141)))) + t142))))) t143 _ A43.out).mono ?_); rintro e w' ⟨rfl, ⟨nd, rfl⟩⟩; (try first | exact ⟨rfl, _, World.drewN_drewN _ _ _⟩ | exact ⟨rfl, _, Eq.trans (World.drewN_drewN _ _ _) (congrArg (World.drewN _) (Nat.add_assoc _ _ _))⟩))))
                        go_ret2
                        exact ⟨by first | rfl | (simp; done) | (simp only [← hji5, ← hji9, ← hji14, ← hji20, ← hji25, ← hji30] <;> (first | rfl | simp)) | (simp [*]; done), by repeat (first | exact Drawn0.refl _ | apply Drawn0.step)⟩
                   ·rw [if_neg c32] at H
                    exact absurd H (by simp)
                  ·rw [if_neg c31] at H
                   exact absurd H (by simp)
                 ·rw [if_neg c28] at H
                  exact absurd H (by simp)
                ·rw [if_neg c27] at H
                 exact absurd H (by simp)
               ·rw [if_neg c26] at H
                exact absurd H (by simp)
              ·rw [if_neg c23] at H
               exact absurd H (by simp)
             ·rw [if_neg c22] at H
              exact absurd H (by simp)
            ·rw [if_neg c21] at H
             exact absurd H (by simp)
           ·rw [if_neg c17] at H
            exact absurd H (by simp)
          ·rw [if_neg c16] at H
           exact absurd H (by simp)
         ·rw [if_neg c15] at H
          exact absurd H (by simp)
        ·rw [if_neg c12] at H
         exact absurd H (by simp)
       ·rw [if_neg c11] at H
        exact absurd H (by simp)
      ·rw [if_neg c10] at H
       exact absurd H (by simp)
     ·rw [if_neg c7] at H
      exact absurd H (by simp)
    ·rw [if_neg c6] at H
     exact absurd H (by simp)

end Go.Proofs.YtjoaiolacalemaaDoor.Fn
end
