-- Packed by pack.py, a program of this session, out of texts of this claim.
import Derived.Test.YtcgejogmiglalaaDoorClHeadEither1
import Derived.Test.YtcgejogmiglalaaDoorClHeadEither2
section
-- Written by printx.py, a program of this session over the kit's print: each Go function as a plain Lean function, and that the Go code computes it.
namespace Go.Proofs.YtcgejogmiglalaaDoor.Fn
open Go.RowKit Go.Proofs.YtcgejogmiglalaaDoorW.PrintWords Go.Proofs.YtcgejogmiglalaaDoorW.PrintLast Go.Proofs.YtcgejogmiglalaaDoorW.PrintMore Go.Proofs.YtcgejogmiglalaaDoor.Lf
attribute [local go_sem] max2_int min2_int max_two min_two max_three min_three max_four min_four   -- for this text's walks alone
set_option linter.unusedVariables false
set_option linter.unusedSimpArgs false
mutual
def l6_HeadEither.j0 : Nat → Int → Int → Bool → Bool → Int → Int → Int → List (S53) → Int → Int → Int → List (S53) → Option (Bool)
 | 0, _, _, _, _, _, _, _, _, _, _, _, _ => none
 | k + 1, x2, x3, x9, x40, x418000, x418001, x418002, x418003, x419000, x419001, x419002, x419003 => if x40 = true then (some x9) else ((head_Put.f k x418000 x418001 x418002 x418003).bind fun bt420 => ((head_Put.f k x419000 x419001 x419002 x419003).bind fun bt422 => (if bt420.2 = 0 then (l6_HeadEither.j1 k x2 x3 bt420.1 bt422.1 (bt422.2 != 0) x418000 x418001 x418002 x418003 x419000 x419001 x419002 x419003) else (l6_HeadEither.j1 k x2 x3 bt420.1 bt422.1 true x418000 x418001 x418002 x418003 x419000 x419001 x419002 x419003))))
def l6_HeadEither.j1 : Nat → Int → Int → ByteArray → ByteArray → Bool → Int → Int → Int → List (S53) → Int → Int → Int → List (S53) → Option (Bool)
 | 0, _, _, _, _, _, _, _, _, _, _, _, _, _ => none
 | k + 1, x2, x3, x10, x12, x57, x418000, x418001, x418002, x418003, x419000, x419001, x419002, x419003 => if x57 = true then (some true) else ((head_Choose.f k x10 x12).bind fun bt424 => ((head_Choose.f k x12 x10).bind fun bt433 => (if bt424.2.2.2.2.2 = 0 then (if bt433.2.2.2.2.2 = 0 then (if ((bt424.2.2.2.2.1 == 1) != (decide (x419000 > x418000))) = true then (none) else (if ((bt433.2.2.2.2.1 == 1) != (decide (x418000 > x419000))) = true then (none) else (if x419000 > x418000 then ((l6_as.f x419000 x419001 x419002 x419003).bind fun bt442 => ((l6_same.f k bt424.1 bt424.2.1 bt424.2.2.1 bt424.2.2.2.1 bt442.1 bt442.2.1 bt442.2.2.1 bt442.2.2.2).bind fun t448 => (if t448 = true then (if x418000 = x419000 then (l6_HeadEither.j2 k x2 x3 x10 x12 false x418000 x418001 x418002 x418003) else ((l6_as.f bt424.1 bt424.2.1 bt424.2.2.1 bt424.2.2.2.1).bind fun bt449 => ((l6_same.f k bt433.1 bt433.2.1 bt433.2.2.1 bt433.2.2.2.1 bt449.1 bt449.2.1 bt449.2.2.1 bt449.2.2.2).bind fun t455 => (l6_HeadEither.j2 k x2 x3 x10 x12 (!t455) x418000 x418001 x418002 x418003)))) else (none)))) else ((l6_as.f x418000 x418001 x418002 x418003).bind fun bt456 => ((l6_same.f k bt424.1 bt424.2.1 bt424.2.2.1 bt424.2.2.2.1 bt456.1 bt456.2.1 bt456.2.2.1 bt456.2.2.2).bind fun t462 => (if t462 = true then (if x418000 = x419000 then (l6_HeadEither.j2 k x2 x3 x10 x12 false x418000 x418001 x418002 x418003) else ((l6_as.f bt424.1 bt424.2.1 bt424.2.2.1 bt424.2.2.2.1).bind fun bt463 => ((l6_same.f k bt433.1 bt433.2.1 bt433.2.2.1 bt433.2.2.2.1 bt463.1 bt463.2.1 bt463.2.2.1 bt463.2.2.2).bind fun t469 => (l6_HeadEither.j2 k x2 x3 x10 x12 (!t469) x418000 x418001 x418002 x418003)))) else (none))))))) else (none)) else (none))))
def l6_HeadEither.j2 : Nat → Int → Int → ByteArray → ByteArray → Bool → Int → Int → Int → List (S53) → Option (Bool)
 | 0, _, _, _, _, _, _, _, _, _ => none
 | k + 1, x2, x3, x10, x12, x133, x418000, x418001, x418002, x418003 => if x133 = true then (none) else (if x2 < 0 then (l6_HeadEither.j3 k x2 x3 x10 x12 true x418000 x418001 x418002 x418003) else (if x2 > 480 then (l6_HeadEither.j3 k x2 x3 x10 x12 true x418000 x418001 x418002 x418003) else (l6_HeadEither.j3 k x2 x3 x10 x12 (x3 == 0) x418000 x418001 x418002 x418003)))
def l6_HeadEither.j3 : Nat → Int → Int → ByteArray → ByteArray → Bool → Int → Int → Int → List (S53) → Option (Bool)
 | 0, _, _, _, _, _, _, _, _, _ => none
 | k + 1, x2, x3, x10, x12, x143, x418000, x418001, x418002, x418003 => if x143 = true then (some true) else (if x12.size ≤ 9223372036854775807 then (l6_HeadEither.l0 k x2 x3 x10 (bytesOf x12) 0 x418000 x418001 x418002 x418003) else (none))
def l6_HeadEither.l0 : Nat → Int → Int → ByteArray → List Int → Int → Int → Int → Int → List (S53) → Option (Bool)
 | 0, _, _, _, _, _, _, _, _, _ => none
 | k + 1, x2, x3, x10, x21, x22, x418000, x418001, x418002, x418003 => if x22 < 32 then (if 0 ≤ x22 then (if (Go.bits .and .u32 (shr .u32 x3 x22) 1) = 1 then (if 0 ≤ (wrap64 (Int.tdiv (wrap64 (x2 + x22)) 8)) then (if (wrap64 (Int.tdiv (wrap64 (x2 + x22)) 8)) < (x21.length : Int) then (if 0 ≤ (Int.tmod (wrap64 (x2 + x22)) 8) then (l6_HeadEither.l0 k x2 x3 x10 (x21.set ((wrap64 (Int.tdiv (wrap64 (x2 + x22)) 8)) : Int).toNat (Go.bits .xor .u8 (rd x21 (wrap64 (Int.tdiv (wrap64 (x2 + x22)) 8))) (shl .u8 1 (Int.tmod (wrap64 (x2 + x22)) 8)))) (wrap64 (x22 + 1)) x418000 x418001 x418002 x418003) else (none)) else (none)) else (none)) else (l6_HeadEither.l0 k x2 x3 x10 x21 (wrap64 (x22 + 1)) x418000 x418001 x418002 x418003)) else (none)) else ((head_Choose.f k x10 (strOfNums x21)).bind fun bt475 => ((l6_as.f x418000 x418001 x418002 x418003).bind fun bt484 => ((l6_same.f k bt475.1 bt475.2.1 bt475.2.2.1 bt475.2.2.2.1 bt484.1 bt484.2.1 bt484.2.2.1 bt484.2.2.2).bind fun t490 => (if t490 = true then (if bt475.2.2.2.2.1 = 0 then (some (bt475.2.2.2.2.2 == 0)) else (none)) else (none)))))
end
def l6_HeadEither.f (k : Nat) (a0_0 : Int) (a0_1 : Int) (a0_2 : Int) (l0_3 : List (S53)) (a1_0 : Int) (a1_1 : Int) (a1_2 : Int) (l1_3 : List (S53)) (a2 : Int) (a3 : Int) : Option (Bool) := (l6_shown.f k).bind fun t419 => (if t419 = true then (if (l0_3.length : Int) > 20 then (l6_HeadEither.j0 k a2 a3 t419 true a0_0 a0_1 a0_2 l0_3 a1_0 a1_1 a1_2 l1_3) else (l6_HeadEither.j0 k a2 a3 t419 (decide ((l1_3.length : Int) > 20)) a0_0 a0_1 a0_2 l0_3 a1_0 a1_1 a1_2 l1_3)) else (l6_HeadEither.j0 k a2 a3 t419 true a0_0 a0_1 a0_2 l0_3 a1_0 a1_1 a1_2 l1_3))
theorem l6_HeadEither.mono_l : ∀ k, (∀ y0 y1 y2 y3 y4 y5 y6 y7 y8 y9 y10 y11, LeO (l6_HeadEither.j0 k y0 y1 y2 y3 y4 y5 y6 y7 y8 y9 y10 y11) (l6_HeadEither.j0 (k + 1) y0 y1 y2 y3 y4 y5 y6 y7 y8 y9 y10 y11)) ∧ (∀ y0 y1 y2 y3 y4 y5 y6 y7 y8 y9 y10 y11 y12, LeO (l6_HeadEither.j1 k y0 y1 y2 y3 y4 y5 y6 y7 y8 y9 y10 y11 y12) (l6_HeadEither.j1 (k + 1) y0 y1 y2 y3 y4 y5 y6 y7 y8 y9 y10 y11 y12)) ∧ (∀ y0 y1 y2 y3 y4 y5 y6 y7 y8, LeO (l6_HeadEither.j2 k y0 y1 y2 y3 y4 y5 y6 y7 y8) (l6_HeadEither.j2 (k + 1) y0 y1 y2 y3 y4 y5 y6 y7 y8)) ∧ (∀ y0 y1 y2 y3 y4 y5 y6 y7 y8, LeO (l6_HeadEither.j3 k y0 y1 y2 y3 y4 y5 y6 y7 y8) (l6_HeadEither.j3 (k + 1) y0 y1 y2 y3 y4 y5 y6 y7 y8)) ∧ (∀ y0 y1 y2 y3 y4 y5 y6 y7 y8, LeO (l6_HeadEither.l0 k y0 y1 y2 y3 y4 y5 y6 y7 y8) (l6_HeadEither.l0 (k + 1) y0 y1 y2 y3 y4 y5 y6 y7 y8))
 | 0 => ⟨fun _ _ _ _ _ _ _ _ _ _ _ _ r h => by simp [l6_HeadEither.j0] at h, fun _ _ _ _ _ _ _ _ _ _ _ _ _ r h => by simp [l6_HeadEither.j1] at h, fun _ _ _ _ _ _ _ _ _ r h => by simp [l6_HeadEither.j2] at h, fun _ _ _ _ _ _ _ _ _ r h => by simp [l6_HeadEither.j3] at h, fun _ _ _ _ _ _ _ _ _ r h => by simp [l6_HeadEither.l0] at h⟩
 | k + 1 => by
  obtain ⟨ih0, ih1, ih2, ih3, ih4⟩ := l6_HeadEither.mono_l k
  refine ⟨?_, ?_, ?_, ?_, ?_⟩
  ·intro y0 y1 y2 y3 y4 y5 y6 y7 y8 y9 y10 y11
   unfold l6_HeadEither.j0
   repeat' first
   | (with_reducible exact ih0 _ _ _ _ _ _ _ _ _ _ _ _)
   | (with_reducible exact ih1 _ _ _ _ _ _ _ _ _ _ _ _ _)
   | (with_reducible exact ih2 _ _ _ _ _ _ _ _ _)
   | (with_reducible exact ih3 _ _ _ _ _ _ _ _ _)
   | (with_reducible exact ih4 _ _ _ _ _ _ _ _ _)
   | (with_reducible exact head_Choose.mono _ _ _)
   | (with_reducible exact head_Put.mono _ _ _ _ _)
   | (with_reducible exact l6_same.mono _ _ _ _ _ _ _ _ _)
   | (with_reducible exact l6_shown.mono _)
   | (with_reducible exact LeO.refl _)
   | (with_reducible exact LeO.none _)
   | (with_reducible refine LeO.ite ?_ ?_)
   | (with_reducible refine LeO.bind ?_ (fun _ => ?_))
   | exact ih0 _ _ _ _ _ _ _ _ _ _ _ _
   | exact ih1 _ _ _ _ _ _ _ _ _ _ _ _ _
   | exact ih2 _ _ _ _ _ _ _ _ _
   | exact ih3 _ _ _ _ _ _ _ _ _
   | exact ih4 _ _ _ _ _ _ _ _ _
   | exact head_Choose.mono _ _ _
   | exact head_Put.mono _ _ _ _ _
   | exact l6_same.mono _ _ _ _ _ _ _ _ _
   | exact l6_shown.mono _
   | exact LeO.none _
   | refine LeO.ite ?_ ?_
   | refine LeO.bind ?_ (fun _ => ?_)
  ·intro y0 y1 y2 y3 y4 y5 y6 y7 y8 y9 y10 y11 y12
   unfold l6_HeadEither.j1
   repeat' first
   | (with_reducible exact ih0 _ _ _ _ _ _ _ _ _ _ _ _)
   | (with_reducible exact ih1 _ _ _ _ _ _ _ _ _ _ _ _ _)
   | (with_reducible exact ih2 _ _ _ _ _ _ _ _ _)
   | (with_reducible exact ih3 _ _ _ _ _ _ _ _ _)
   | (with_reducible exact ih4 _ _ _ _ _ _ _ _ _)
   | (with_reducible exact head_Choose.mono _ _ _)
   | (with_reducible exact head_Put.mono _ _ _ _ _)
   | (with_reducible exact l6_same.mono _ _ _ _ _ _ _ _ _)
   | (with_reducible exact l6_shown.mono _)
   | (with_reducible exact LeO.refl _)
   | (with_reducible exact LeO.none _)
   | (with_reducible refine LeO.ite ?_ ?_)
   | (with_reducible refine LeO.bind ?_ (fun _ => ?_))
   | exact ih0 _ _ _ _ _ _ _ _ _ _ _ _
   | exact ih1 _ _ _ _ _ _ _ _ _ _ _ _ _
   | exact ih2 _ _ _ _ _ _ _ _ _
   | exact ih3 _ _ _ _ _ _ _ _ _
   | exact ih4 _ _ _ _ _ _ _ _ _
   | exact head_Choose.mono _ _ _
   | exact head_Put.mono _ _ _ _ _
   | exact l6_same.mono _ _ _ _ _ _ _ _ _
   | exact l6_shown.mono _
   | exact LeO.none _
   | refine LeO.ite ?_ ?_
   | refine LeO.bind ?_ (fun _ => ?_)
  ·intro y0 y1 y2 y3 y4 y5 y6 y7 y8
   unfold l6_HeadEither.j2
   repeat' first
   | (with_reducible exact ih0 _ _ _ _ _ _ _ _ _ _ _ _)
   | (with_reducible exact ih1 _ _ _ _ _ _ _ _ _ _ _ _ _)
   | (with_reducible exact ih2 _ _ _ _ _ _ _ _ _)
   | (with_reducible exact ih3 _ _ _ _ _ _ _ _ _)
   | (with_reducible exact ih4 _ _ _ _ _ _ _ _ _)
   | (with_reducible exact head_Choose.mono _ _ _)
   | (with_reducible exact head_Put.mono _ _ _ _ _)
   | (with_reducible exact l6_same.mono _ _ _ _ _ _ _ _ _)
   | (with_reducible exact l6_shown.mono _)
   | (with_reducible exact LeO.refl _)
   | (with_reducible exact LeO.none _)
   | (with_reducible refine LeO.ite ?_ ?_)
   | (with_reducible refine LeO.bind ?_ (fun _ => ?_))
   | exact ih0 _ _ _ _ _ _ _ _ _ _ _ _
   | exact ih1 _ _ _ _ _ _ _ _ _ _ _ _ _
   | exact ih2 _ _ _ _ _ _ _ _ _
   | exact ih3 _ _ _ _ _ _ _ _ _
   | exact ih4 _ _ _ _ _ _ _ _ _
   | exact head_Choose.mono _ _ _
   | exact head_Put.mono _ _ _ _ _
   | exact l6_same.mono _ _ _ _ _ _ _ _ _
   | exact l6_shown.mono _
   | exact LeO.none _
   | refine LeO.ite ?_ ?_
   | refine LeO.bind ?_ (fun _ => ?_)
  ·intro y0 y1 y2 y3 y4 y5 y6 y7 y8
   unfold l6_HeadEither.j3
   repeat' first
   | (with_reducible exact ih0 _ _ _ _ _ _ _ _ _ _ _ _)
   | (with_reducible exact ih1 _ _ _ _ _ _ _ _ _ _ _ _ _)
   | (with_reducible exact ih2 _ _ _ _ _ _ _ _ _)
   | (with_reducible exact ih3 _ _ _ _ _ _ _ _ _)
   | (with_reducible exact ih4 _ _ _ _ _ _ _ _ _)
   | (with_reducible exact head_Choose.mono _ _ _)
   | (with_reducible exact head_Put.mono _ _ _ _ _)
   | (with_reducible exact l6_same.mono _ _ _ _ _ _ _ _ _)
   | (with_reducible exact l6_shown.mono _)
   | (with_reducible exact LeO.refl _)
   | (with_reducible exact LeO.none _)
   | (with_reducible refine LeO.ite ?_ ?_)
   | (with_reducible refine LeO.bind ?_ (fun _ => ?_))
   | exact ih0 _ _ _ _ _ _ _ _ _ _ _ _
   | exact ih1 _ _ _ _ _ _ _ _ _ _ _ _ _
   | exact ih2 _ _ _ _ _ _ _ _ _
   | exact ih3 _ _ _ _ _ _ _ _ _
   | exact ih4 _ _ _ _ _ _ _ _ _
   | exact head_Choose.mono _ _ _
   | exact head_Put.mono _ _ _ _ _
   | exact l6_same.mono _ _ _ _ _ _ _ _ _
   | exact l6_shown.mono _
   | exact LeO.none _
   | refine LeO.ite ?_ ?_
   | refine LeO.bind ?_ (fun _ => ?_)
  ·intro y0 y1 y2 y3 y4 y5 y6 y7 y8
   unfold l6_HeadEither.l0
   repeat' first
   | (with_reducible exact ih0 _ _ _ _ _ _ _ _ _ _ _ _)
   | (with_reducible exact ih1 _ _ _ _ _ _ _ _ _ _ _ _ _)
   | (with_reducible exact ih2 _ _ _ _ _ _ _ _ _)
   | (with_reducible exact ih3 _ _ _ _ _ _ _ _ _)
   | (with_reducible exact ih4 _ _ _ _ _ _ _ _ _)
   | (with_reducible exact head_Choose.mono _ _ _)
   | (with_reducible exact head_Put.mono _ _ _ _ _)
   | (with_reducible exact l6_same.mono _ _ _ _ _ _ _ _ _)
   | (with_reducible exact l6_shown.mono _)
   | (with_reducible exact LeO.refl _)
   | (with_reducible exact LeO.none _)
   | (with_reducible refine LeO.ite ?_ ?_)
   | (with_reducible refine LeO.bind ?_ (fun _ => ?_))
   | exact ih0 _ _ _ _ _ _ _ _ _ _ _ _
   | exact ih1 _ _ _ _ _ _ _ _ _ _ _ _ _
   | exact ih2 _ _ _ _ _ _ _ _ _
   | exact ih3 _ _ _ _ _ _ _ _ _
   | exact ih4 _ _ _ _ _ _ _ _ _
   | exact head_Choose.mono _ _ _
   | exact head_Put.mono _ _ _ _ _
   | exact l6_same.mono _ _ _ _ _ _ _ _ _
   | exact l6_shown.mono _
   | exact LeO.none _
   | refine LeO.ite ?_ ?_
   | refine LeO.bind ?_ (fun _ => ?_)
theorem l6_HeadEither.mono : ∀ a0 a1 a2 a3 a4 a5 a6 a7 a8 a9 k, LeO (l6_HeadEither.f k a0 a1 a2 a3 a4 a5 a6 a7 a8 a9) (l6_HeadEither.f (k + 1) a0 a1 a2 a3 a4 a5 a6 a7 a8 a9) := by
 intro a0 a1 a2 a3 a4 a5 a6 a7 a8 a9 k
 obtain ⟨ih0, ih1, ih2, ih3, ih4⟩ := l6_HeadEither.mono_l k
 unfold l6_HeadEither.f
 repeat' first
   | (with_reducible exact ih0 _ _ _ _ _ _ _ _ _ _ _ _)
   | (with_reducible exact ih1 _ _ _ _ _ _ _ _ _ _ _ _ _)
   | (with_reducible exact ih2 _ _ _ _ _ _ _ _ _)
   | (with_reducible exact ih3 _ _ _ _ _ _ _ _ _)
   | (with_reducible exact ih4 _ _ _ _ _ _ _ _ _)
   | (with_reducible exact head_Choose.mono _ _ _)
   | (with_reducible exact head_Put.mono _ _ _ _ _)
   | (with_reducible exact l6_same.mono _ _ _ _ _ _ _ _ _)
   | (with_reducible exact l6_shown.mono _)
   | (with_reducible exact LeO.refl _)
   | (with_reducible exact LeO.none _)
   | (with_reducible refine LeO.ite ?_ ?_)
   | (with_reducible refine LeO.bind ?_ (fun _ => ?_))
   | exact ih0 _ _ _ _ _ _ _ _ _ _ _ _
   | exact ih1 _ _ _ _ _ _ _ _ _ _ _ _ _
   | exact ih2 _ _ _ _ _ _ _ _ _
   | exact ih3 _ _ _ _ _ _ _ _ _
   | exact ih4 _ _ _ _ _ _ _ _ _
   | exact head_Choose.mono _ _ _
   | exact head_Put.mono _ _ _ _ _
   | exact l6_same.mono _ _ _ _ _ _ _ _ _
   | exact l6_shown.mono _
   | exact LeO.none _
   | refine LeO.ite ?_ ?_
   | refine LeO.bind ?_ (fun _ => ?_)
def l6_HeadEither.T11 : Bool × List (List Nat × List Nat) := (true, [([], []), ([0], [0]), ([1], [1]), ([2], [2]), ([3, 2], [2, 3]), ([2, 4], [2, 4]), ([5, 2], [5]), ([6], [6]), ([7, 6], [6, 7]), ([6], [6]), ([8, 9, 6], [6, 8, 9]), ([6, 10], [6, 10]), ([11, 6], [11]), ([12], [12]), ([13, 12], [12, 13]), ([12], [12]), ([15, 12], [12, 15]), ([12], [12]), ([17, 12], [12, 17]), ([16, 18, 12], [12, 16, 18]), ([14, 19, 12], [12, 14, 19]), ([12, 20], [12, 20]), ([21, 12], [21]), ([22], [22]), ([23, 22, 22], [22, 23]), ([24], [24]), ([24], [24]), ([26, 24, 24], [24, 26]), ([25, 27, 27, 24], [24, 25, 27]), ([28, 24], [24, 28]), ([24, 29, 22], [22, 24, 29]), ([22, 30], [22, 30]), ([31, 28], [31]), ([32], [32]), ([33, 32], [32, 33]), ([34, 32, 32], [32, 34]), ([35], [35]), ([35], [35]), ([37, 35, 35], [35, 37]), ([36, 38, 38, 35], [35, 36, 38]), ([39, 35], [35, 39]), ([35, 40, 32], [32, 35, 40]), ([32, 41], [32, 41]), ([42, 39], [42]), ([43], [43]), ([44, 43], [43, 44]), ([43], [43]), ([46, 43], [43, 46]), ([45, 47, 43], [43, 45, 47]), ([48, 43, 43], [43, 48]), ([49], [49]), ([49], [49]), ([51, 49, 49], [49, 51]), ([50, 52, 52, 49], [49, 50, 52]), ([53, 49], [49, 53]), ([49, 54, 43], [43, 49, 54]), ([43, 55], [43, 55])])
def l6_HeadEither.B11 : List Nat := [0, 1, 3, 7, 15, 31, 63, 127, 255, 127, 1023, 2047, 4095, 8191, 16383, 8191, 40959, 8191, 139263, 499711, 1048575, 2097151, 4194303, 8388607, 16777215, 33554431, 33554431, 100663295, 268435455, 536870911, 1073741823, 2147483647, 4294967295, 8589934591, 17179869183, 34359738367, 68719476735, 68719476735, 206158430207, 549755813887, 1099511627775, 2199023255551, 4398046511103, 8796093022207, 17592186044415, 35184372088831, 17592186044415, 87960930222079, 281474976710655, 562949953421311, 1125899906842623, 1125899906842623, 3377699720527871, 9007199254740991, 18014398509481983, 36028797018963967, 72057594037927935]
theorem l6_HeadEither.tab11 : rtab .any (opsOf Tryd.f6 11) = l6_HeadEither.T11 := by kernel_rfl
theorem l6_HeadEither.bits11 : waitsOk l6_HeadEither.T11.2 l6_HeadEither.B11 = true := by kernel_rfl
def l6_HeadEither.T20 : Bool × List (List Nat × List Nat) := (true, [([], []), ([], []), ([], []), ([1, 2], [1, 2]), ([3], [3]), ([], []), ([], []), ([], []), ([6, 7], [6, 7]), ([8], [8]), ([5, 9], [5, 9]), ([10], [10]), ([], []), ([], []), ([12, 13], [12, 13]), ([14], [14]), ([15], [15]), ([11, 16], [11, 16]), ([0, 4, 0, 1, 2, 3, 4, 5, 6, 7, 8, 9, 10, 11, 12, 13, 14, 15, 16, 17], [0, 4]), ([18, 17, 0, 1, 2, 3, 4, 5, 6, 7, 8, 9, 10, 11, 12, 13, 14, 15, 16, 17], [17, 18])])
def l6_HeadEither.B20 : List Nat := [0, 0, 0, 6, 14, 0, 0, 0, 192, 448, 992, 2016, 0, 0, 12288, 28672, 61440, 131040, 262143, 524287]
theorem l6_HeadEither.tab20 : rtab .any (opsOf Tryd.f6 20) = l6_HeadEither.T20 := by kernel_rfl
theorem l6_HeadEither.bits20 : waitsOk l6_HeadEither.T20.2 l6_HeadEither.B20 = true := by kernel_rfl
def l6_HeadEither.T22 : Bool × List (List Nat × List Nat) := (true, [([], []), ([], []), ([1], [1]), ([0, 2, 2], [0, 2]), ([3, 3], [3]), ([4], [4]), ([5, 4], [4, 5]), ([4, 6], [4, 6]), ([7, 4], [7]), ([8], [8]), ([9, 8], [8, 9]), ([8, 10], [8, 10]), ([11, 8, 0, 1, 2, 3, 4, 5, 6, 7, 8, 9, 10, 11], [11])])
def l6_HeadEither.B22 : List Nat := [0, 0, 2, 7, 15, 31, 63, 127, 255, 511, 1023, 2047, 4095]
theorem l6_HeadEither.tab22 : rtab .any (opsOf Tryd.f6 22) = l6_HeadEither.T22 := by kernel_rfl
theorem l6_HeadEither.bits22 : waitsOk l6_HeadEither.T22.2 l6_HeadEither.B22 = true := by kernel_rfl
set_option maxHeartbeats 8000000 in
set_option maxRecDepth 100000 in
theorem l6_HeadEither.calls (k : Nat) (a0_0 : Int) (a0_1 : Int) (a0_2 : Int) (A0_3 : Option Addr) (c0_3 : Nat) (l0_3 : List (S53)) (a1_0 : Int) (a1_1 : Int) (a1_2 : Int) (A1_3 : Option Addr) (c1_3 : Nat) (l1_3 : List (S53)) (a2 : Int) (a3 : Int) (r : Bool) (w : World) (hr0_3 : Kd.C k53 w A0_3 l0_3.length l0_3) (hc0_3 : l0_3.length ≤ c0_3) (hr1_3 : Kd.C k53 w A1_3 l1_3.length l1_3) (hc1_3 : l1_3.length ≤ c1_3) (h : l6_HeadEither.f k a0_0 a0_1 a0_2 l0_3 a1_0 a1_1 a1_2 l1_3 a2 a3 = some r) :
  Calls Tryd.prog 6 #[.agg #[.int .u64 a0_0, .int .i64 a0_1, .int .i64 a0_2, .slice A0_3 l0_3.length c0_3], .agg #[.int .u64 a1_0, .int .i64 a1_1, .int .i64 a1_2, .slice A1_3 l1_3.length c1_3], .int .i64 a2, .int .u32 a3] w fun e w' => e = .returned (.bool r) ∧ Below w.heap.size w w' := by
 have hu25 := Tryd.underlying25
 have HR0_3 := Ax.mk hr0_3
 have HC0_3 := Ax.mk hc0_3
 clear hr0_3 hc0_3
 have HR1_3 := Ax.mk hr1_3
 have HC1_3 := Ax.mk hc1_3
 clear hr1_3 hc1_3
 have HB := Ax.mk (Below.refl w.heap.size w)
 have H : ((l6_shown.f k).bind fun t419 => (if t419 = true then (if (l0_3.length : Int) > 20 then (l6_HeadEither.j0 k a2 a3 t419 true a0_0 a0_1 a0_2 l0_3 a1_0 a1_1 a1_2 l1_3) else (l6_HeadEither.j0 k a2 a3 t419 (decide ((l1_3.length : Int) > 20)) a0_0 a0_1 a0_2 l0_3 a1_0 a1_1 a1_2 l1_3)) else (l6_HeadEither.j0 k a2 a3 t419 true a0_0 a0_1 a0_2 l0_3 a1_0 a1_1 a1_2 l1_3))) = some r := h
 clear h
 replace H := Option.bind_eq_some_iff.mp H
 obtain ⟨t419, A50, H⟩ := H
 replace H : (if t419 = true then (if (l0_3.length : Int) > 20 then (l6_HeadEither.j0 k a2 a3 t419 true a0_0 a0_1 a0_2 l0_3 a1_0 a1_1 a1_2 l1_3) else (l6_HeadEither.j0 k a2 a3 t419 (decide ((l1_3.length : Int) > 20)) a0_0 a0_1 a0_2 l0_3 a1_0 a1_1 a1_2 l1_3)) else (l6_HeadEither.j0 k a2 a3 t419 true a0_0 a0_1 a0_2 l0_3 a1_0 a1_1 a1_2 l1_3)) = some r := H
 have A5 := Ax.mk A50
 clear A50
 have HC6 := Ax.mk H
 clear H
 go_enter Tryd.func6, Tryd.ntmps6
 go_upto_region 2 with (first | ((with_reducible refine gate_dst (N := 4) rfl ?_); (try (refine gate_guard (by rfl) ?_; dsimp only)); refine box_event ?hg (N := 4) ?hd (cs := #[.int .u64 a0_0, .int .i64 a0_1, .int .i64 a0_2, .slice A0_3 l0_3.length c0_3]) (t := 25) ?hr ?_; (case hd => rfl); (case hg => rfl); (case hr => first | (go_simp; done) | (go_simp; rfl)); intro gb417 hg w7 hbox hb; have n0_ := Ax.mk (bP bA hb); have n1_ := Ax.mk (hbox); have n2_ := Ax.mk ((ge_new hg : w.heap.size ≤ gb417)); have n3_ := n2_; clear HB; have HB := n0_; have BK417 := n1_; have GW417 := n2_; have GE417 := n3_; clear n0_ n1_ n2_ n3_; clear hb hbox hg) | ((with_reducible refine gate_dst (N := 5) rfl ?_); (try (refine gate_guard (by rfl) ?_; dsimp only)); refine box_event ?hg (N := 5) ?hd (cs := #[.int .u64 a1_0, .int .i64 a1_1, .int .i64 a1_2, .slice A1_3 l1_3.length c1_3]) (t := 25) ?hr ?_; (case hd => rfl); (case hg => rfl); (case hr => first | (go_simp; done) | (go_simp; rfl)); intro gb418 hg w8 hbox hb; have n0_ := Ax.mk (bB (bT BK417.out) hb); have n1_ := Ax.mk (bP bA hb); have n2_ := Ax.mk (hbox); have n3_ := Ax.mk ((ge_new hg : w.heap.size ≤ gb418)); have n4_ := n3_; have n5_ := Ax.mk ((ne_lt hg BK417.out : gb417 ≠ gb418)); have n6_ := Ax.mk ((ne_gt hg BK417.out : gb418 ≠ gb417)); clear BK417; clear HB; have BK417 := n0_; have HB := n1_; have BK418 := n2_; have GW418 := n3_; have GE418 := n4_; have NB417_418 := n5_; have NB418_417 := n6_; clear n0_ n1_ n2_ n3_ n4_ n5_ n6_; clear hb hbox hg) | ((with_reducible refine gate_callee (f := 9) rfl ?_); refine goesL_ (some 26) rfl rfl Tryd.func9 (by kernel_rfl) rfl #[] rfl (by (try simp only [List.map_toArray, List.map_cons, List.map_nil]); first | done | rfl | (simp only [List.length_drop, List.length_take]; rfl) | (rw [wrap_sum2 (by assumption)]; rfl)) ?_; (with_reducible refine (l6_shown.calls k  t419 _ A5.out).mono ?_); rintro e w9 ⟨rfl, hb⟩; refine ⟨_, rfl, ?_⟩; have n0_ := Ax.mk (bB (bT BK417.out) hb); have n1_ := Ax.mk (bB (bT BK418.out) hb); have n2_ := Ax.mk (bP bA hb); clear BK417; clear BK418; clear HB; have BK417 := n0_; have BK418 := n1_; have HB := n2_; clear n0_ n1_ n2_; (try clear hb); (try clear hb2); (try clear hk); (try clear hi)))
 (try simp only [Act.put, sI, sZ, sS])
 go_cut [40] (fun v40 wc => ∃ (kq : Nat) (x40_5 : Bool), v40 = .bool x40_5 ∧ Ax (l6_HeadEither.j0 kq a2 a3 t419 x40_5 a0_0 a0_1 a0_2 l0_3 a1_0 a1_1 a1_2 l1_3 = some r) ∧ Ax (kq ≤ k) ∧ Ax (wc.heap[gb417]? = some (.cells #[.int .u64 a0_0, .int .i64 a0_1, .int .i64 a0_2, (.slice A0_3 l0_3.length c0_3)] 25 (0, 0))) ∧ Ax (wc.heap[gb418]? = some (.cells #[.int .u64 a1_0, .int .i64 a1_1, .int .i64 a1_2, (.slice A1_3 l1_3.length c1_3)] 25 (0, 0))) ∧ Ax (Below w.heap.size w wc))
 case first =>
  have H := HC6.out
  clear HC6
  by_cases c10 : t419 = true
  ·subst c10
   have H1 : (if (l0_3.length : Int) > 20 then (l6_HeadEither.j0 k a2 a3 true true a0_0 a0_1 a0_2 l0_3 a1_0 a1_1 a1_2 l1_3) else (l6_HeadEither.j0 k a2 a3 true (decide ((l1_3.length : Int) > 20)) a0_0 a0_1 a0_2 l0_3 a1_0 a1_1 a1_2 l1_3)) = some r := by rw [if_pos rfl] at H; exact H
   clear H
   have H := H1
   clear H1
   by_cases c11 : (l0_3.length : Int) > 20
   ·rw [if_pos c11] at H
    have c11b0 : decide (20 < (l0_3.length : Int)) = true := decide_eq_true c11
    have c11b1 : decide (20 < l0_3.length) = true := decide_eq_true (by omega)
    clear c11
    (first | rw [c11b0] | (simp only [i64_w, i32_w]; rw [c11b0]) | skip)
    have H' := Ax.mk H
    clear H
    have hnb12 := NB417_418.out
    have hnc12 := NB418_417.out
    have hcz13_0 : w9.cell? ⟨gb417, 0, none⟩ = some (.int .u64 a0_0) := (bC BK417.out 0).trans rfl
    have hcz13_1 : w9.cell? ⟨gb417, 1, none⟩ = some (.int .i64 a0_1) := (bC BK417.out 1).trans rfl
    have hcz13_2 : w9.cell? ⟨gb417, 2, none⟩ = some (.int .i64 a0_2) := (bC BK417.out 2).trans rfl
    have hcz13_3 : w9.cell? ⟨gb417, 3, none⟩ = some (.slice A0_3 l0_3.length c0_3) := (bC BK417.out 3).trans rfl
    have hfz13_0 := bF BK417.out 0
    have hfz13_1 := bF BK417.out 1
    have hfz13_2 := bF BK417.out 2
    have hfz13_3 := bF BK417.out 3
    go_wp2
    go_meet
    case rel => exact ⟨_, (true), (by first | rfl | (simp; done) | (simp [*]; done)), H', ⟨by first | omega | exact Nat.le_refl _⟩, ⟨by refine bT ?_; exact BK417.out⟩, ⟨by refine bT ?_; exact BK418.out⟩, ⟨bA⟩⟩
   ·rw [if_neg c11] at H
    have c11b0 : decide (20 < (l0_3.length : Int)) = false := decide_eq_false c11
    have c11b1 : decide (20 < l0_3.length) = false := decide_eq_false (by omega)
    clear c11
    (first | rw [c11b0] | (simp only [i64_w, i32_w]; rw [c11b0]) | skip)
    have H' := Ax.mk H
    clear H
    have hnb14 := NB417_418.out
    have hnc14 := NB418_417.out
    have hcz15_0 : w9.cell? ⟨gb417, 0, none⟩ = some (.int .u64 a0_0) := (bC BK417.out 0).trans rfl
    have hcz15_1 : w9.cell? ⟨gb417, 1, none⟩ = some (.int .i64 a0_1) := (bC BK417.out 1).trans rfl
    have hcz15_2 : w9.cell? ⟨gb417, 2, none⟩ = some (.int .i64 a0_2) := (bC BK417.out 2).trans rfl
    have hcz15_3 : w9.cell? ⟨gb417, 3, none⟩ = some (.slice A0_3 l0_3.length c0_3) := (bC BK417.out 3).trans rfl
    have hfz15_0 := bF BK417.out 0
    have hfz15_1 := bF BK417.out 1
    have hfz15_2 := bF BK417.out 2
    have hfz15_3 := bF BK417.out 3
    have hcz16_0 : w9.cell? ⟨gb418, 0, none⟩ = some (.int .u64 a1_0) := (bC BK418.out 0).trans rfl
    have hcz16_1 : w9.cell? ⟨gb418, 1, none⟩ = some (.int .i64 a1_1) := (bC BK418.out 1).trans rfl
    have hcz16_2 : w9.cell? ⟨gb418, 2, none⟩ = some (.int .i64 a1_2) := (bC BK418.out 2).trans rfl
    have hcz16_3 : w9.cell? ⟨gb418, 3, none⟩ = some (.slice A1_3 l1_3.length c1_3) := (bC BK418.out 3).trans rfl
    have hfz16_0 := bF BK418.out 0
    have hfz16_1 := bF BK418.out 1
    have hfz16_2 := bF BK418.out 2
    have hfz16_3 := bF BK418.out 3
    go_wp2
    go_meet
    case rel => exact ⟨_, (decide ((l1_3.length : Int) > 20)), (by first | rfl | (simp; done) | (simp [*]; done)), H', ⟨by first | omega | exact Nat.le_refl _⟩, ⟨by refine bT ?_; exact BK417.out⟩, ⟨by refine bT ?_; exact BK418.out⟩, ⟨bA⟩⟩
  ·replace c10 := Bool.eq_false_iff.mpr c10
   subst c10
   have H1 : (l6_HeadEither.j0 k a2 a3 false true a0_0 a0_1 a0_2 l0_3 a1_0 a1_1 a1_2 l1_3) = some r := by rw [if_neg (show ¬ (false = true) by decide)] at H; exact H
   clear H
   have H := H1
   clear H1
   have H' := Ax.mk H
   clear H
   go_wp2
   go_meet
   case rel => exact ⟨_, (true), (by first | rfl | (simp; done) | (simp [*]; done)), H', ⟨by first | omega | exact Nat.le_refl _⟩, ⟨by refine bT ?_; exact BK417.out⟩, ⟨by refine bT ?_; exact BK418.out⟩, ⟨bA⟩⟩
 case rest =>
  clear HC6
  try clear c1
  try clear p2
  try clear c6
  try clear c9
  try clear c10
  try clear c11
  try clear c11b0
  try clear c11b1
  try clear c12
  try clear c14
  try clear hcz13_0
  try clear hcz13_1
  try clear hcz13_2
  try clear hcz13_3
  try clear hcz15_0
  try clear hcz15_1
  try clear hcz15_2
  try clear hcz15_3
  try clear hcz16_0
  try clear hcz16_1
  try clear hcz16_2
  try clear hcz16_3
  try clear hfz13_0
  try clear hfz13_1
  try clear hfz13_2
  try clear hfz13_3
  try clear hfz15_0
  try clear hfz15_1
  try clear hfz15_2
  try clear hfz15_3
  try clear hfz16_0
  try clear hfz16_1
  try clear hfz16_2
  try clear hfz16_3
  obtain ⟨kq, x40_5, rfl, HA, HJ5, BK417, BK418, HB⟩ := hcut
  cases kq with
  | zero => exact absurd HA.out (by simp [l6_HeadEither.j0])
  | succ kj5 =>
   have H := HA.out
   clear HA
   simp only [l6_HeadEither.j0] at H
   by_cases c17 : x40_5 = true
   ·subst c17
    have H1 : (some t419) = some r := by rw [if_pos rfl] at H; exact H
    clear H
    have H := H1
    clear H1
    obtain rfl := Option.some.inj H
    go_wp2
    go_ret
    exact ⟨by first | rfl | (simp [errW_none, errW_some] <;> rfl) | (simp [*, errW_none, errW_some] <;> rfl), bA⟩
   ·replace c17 := Bool.eq_false_iff.mpr c17
    subst c17
    have H1 : ((head_Put.f kj5 a0_0 a0_1 a0_2 l0_3).bind fun bt420 => ((head_Put.f kj5 a1_0 a1_1 a1_2 l1_3).bind fun bt422 => (if bt420.2 = 0 then (l6_HeadEither.j1 kj5 a2 a3 bt420.1 bt422.1 (bt422.2 != 0) a0_0 a0_1 a0_2 l0_3 a1_0 a1_1 a1_2 l1_3) else (l6_HeadEither.j1 kj5 a2 a3 bt420.1 bt422.1 true a0_0 a0_1 a0_2 l0_3 a1_0 a1_1 a1_2 l1_3)))) = some r := by rw [if_neg (show ¬ (false = true) by decide)] at H; exact H
    clear H
    have H := H1
    clear H1
    replace H := Option.bind_eq_some_iff.mp H
    obtain ⟨⟨t420, t421⟩, A180, H⟩ := H
    replace H : ((head_Put.f kj5 a1_0 a1_1 a1_2 l1_3).bind fun bt422 => (if t421 = 0 then (l6_HeadEither.j1 kj5 a2 a3 t420 bt422.1 (bt422.2 != 0) a0_0 a0_1 a0_2 l0_3 a1_0 a1_1 a1_2 l1_3) else (l6_HeadEither.j1 kj5 a2 a3 t420 bt422.1 true a0_0 a0_1 a0_2 l0_3 a1_0 a1_1 a1_2 l1_3))) = some r := H
    have A18 := Ax.mk A180
    clear A180
    replace H := Option.bind_eq_some_iff.mp H
    obtain ⟨⟨t422, t423⟩, A190, H⟩ := H
    replace H : (if t421 = 0 then (l6_HeadEither.j1 kj5 a2 a3 t420 t422 (t423 != 0) a0_0 a0_1 a0_2 l0_3 a1_0 a1_1 a1_2 l1_3) else (l6_HeadEither.j1 kj5 a2 a3 t420 t422 true a0_0 a0_1 a0_2 l0_3 a1_0 a1_1 a1_2 l1_3)) = some r := H
    have A19 := Ax.mk A190
    clear A190
    have HC20 := Ax.mk H
    clear H
    have hnb21 := NB417_418.out
    have hnc21 := NB418_417.out
    have hcz22_0 : wc.cell? ⟨gb417, 0, none⟩ = some (.int .u64 a0_0) := (bC BK417.out 0).trans rfl
    have hcz22_1 : wc.cell? ⟨gb417, 1, none⟩ = some (.int .i64 a0_1) := (bC BK417.out 1).trans rfl
    have hcz22_2 : wc.cell? ⟨gb417, 2, none⟩ = some (.int .i64 a0_2) := (bC BK417.out 2).trans rfl
    have hcz22_3 : wc.cell? ⟨gb417, 3, none⟩ = some (.slice A0_3 l0_3.length c0_3) := (bC BK417.out 3).trans rfl
    have hfz22_0 := bF BK417.out 0
    have hfz22_1 := bF BK417.out 1
    have hfz22_2 := bF BK417.out 2
    have hfz22_3 := bF BK417.out 3
    go_upto_region 6 with (first | ((with_reducible refine gate_callee (f := 10) rfl ?_); refine goesL_ (some 44) rfl rfl Tryd.func10 (by kernel_rfl) rfl #[.agg #[.int .u64 a0_0, .int .i64 a0_1, .int .i64 a0_2, .slice A0_3 l0_3.length c0_3]] rfl (by (try simp only [List.map_toArray, List.map_cons, List.map_nil]); first | done | rfl | (simp only [List.length_drop, List.length_take]; rfl) | (rw [wrap_sum2 (by assumption)]; rfl)) ?_; (with_reducible refine (head_Put.calls kj5 a0_0 a0_1 a0_2 _ _ l0_3 t420 t421 _ ?side1 ?side2 A18.out).mono ?_); (case side1 => repeat (first | exact (Kd.C_below HR0_3.out HB.out) | (with_reducible refine Kd.C_alloc ?_ _) | (with_reducible refine Kd.C_drewN ?_ _) | (with_reducible refine Kd.C_drew ?_))); (case side2 => exact HC0_3.out); rintro e w23 ⟨rfl, hb⟩; refine ⟨_, rfl, ?_⟩; have n0_ := Ax.mk (bB (bT BK417.out) hb); have n1_ := Ax.mk (bB (bT BK418.out) hb); have n2_ := Ax.mk (bP bA hb); clear BK417; clear BK418; clear HB; have BK417 := n0_; have BK418 := n1_; have HB := n2_; clear n0_ n1_ n2_; (try clear hb); (try clear hb2); (try clear hk); (try clear hi); have hcz24_0 : w23.cell? ⟨gb418, 0, none⟩ = some (.int .u64 a1_0) := (bC BK418.out 0).trans rfl; have hcz24_1 : w23.cell? ⟨gb418, 1, none⟩ = some (.int .i64 a1_1) := (bC BK418.out 1).trans rfl; have hcz24_2 : w23.cell? ⟨gb418, 2, none⟩ = some (.int .i64 a1_2) := (bC BK418.out 2).trans rfl; have hcz24_3 : w23.cell? ⟨gb418, 3, none⟩ = some (.slice A1_3 l1_3.length c1_3) := (bC BK418.out 3).trans rfl; have hfz24_0 := bF BK418.out 0; have hfz24_1 := bF BK418.out 1; have hfz24_2 := bF BK418.out 2; have hfz24_3 := bF BK418.out 3) | ((with_reducible refine gate_callee (f := 10) rfl ?_); refine goesL_ (some 49) rfl rfl Tryd.func10 (by kernel_rfl) rfl #[.agg #[.int .u64 a1_0, .int .i64 a1_1, .int .i64 a1_2, .slice A1_3 l1_3.length c1_3]] rfl (by (try simp only [List.map_toArray, List.map_cons, List.map_nil]); first | done | rfl | (simp only [List.length_drop, List.length_take]; rfl) | (rw [wrap_sum2 (by assumption)]; rfl)) ?_; (with_reducible refine (head_Put.calls kj5 a1_0 a1_1 a1_2 _ _ l1_3 t422 t423 _ ?side1 ?side2 A19.out).mono ?_); (case side1 => repeat (first | exact (Kd.C_below HR1_3.out HB.out) | (with_reducible refine Kd.C_alloc ?_ _) | (with_reducible refine Kd.C_drewN ?_ _) | (with_reducible refine Kd.C_drew ?_))); (case side2 => exact HC1_3.out); rintro e w25 ⟨rfl, hb⟩; refine ⟨_, rfl, ?_⟩; have n0_ := Ax.mk (bB (bT BK417.out) hb); have n1_ := Ax.mk (bB (bT BK418.out) hb); have n2_ := Ax.mk (bP bA hb); clear BK417; clear BK418; clear HB; have BK417 := n0_; have BK418 := n1_; have HB := n2_; clear n0_ n1_ n2_; (try clear hb); (try clear hb2); (try clear hk); (try clear hi)))
    (try simp only [Act.put, sI, sZ, sS])
    go_cut [57] (fun v57 wc => ∃ (kq : Nat) (x57_19 : Bool), v57 = .bool x57_19 ∧ Ax (l6_HeadEither.j1 kq a2 a3 t420 t422 x57_19 a0_0 a0_1 a0_2 l0_3 a1_0 a1_1 a1_2 l1_3 = some r) ∧ Ax (kq ≤ kj5) ∧ Ax (wc.heap[gb417]? = some (.cells #[.int .u64 a0_0, .int .i64 a0_1, .int .i64 a0_2, (.slice A0_3 l0_3.length c0_3)] 25 (0, 0))) ∧ Ax (wc.heap[gb418]? = some (.cells #[.int .u64 a1_0, .int .i64 a1_1, .int .i64 a1_2, (.slice A1_3 l1_3.length c1_3)] 25 (0, 0))) ∧ Ax (Below w.heap.size w wc))
    case first =>
     have H := HC20.out
     clear HC20
     by_cases c26 : t421 = 0
     ·rw [if_pos c26] at H
      have c26b0 : (t421 == 0) = true := beq_iff_eq.mpr c26
      have c26b1 : (t421 != 0) = false := bne_eq_false_iff_eq.mpr c26
      clear c26
      (first | rw [c26b0] | (simp only [i64_w, i32_w]; rw [c26b0]) | skip)
      have H' := Ax.mk H
      clear H
      go_wp2
      go_meet
      case rel => exact ⟨_, ((t423 != 0)), (by first | rfl | (simp; done) | (simp [*]; done)), H', ⟨by have := HJ5.out; first | omega | exact Nat.le_refl _⟩, ⟨by refine bT ?_; exact BK417.out⟩, ⟨by refine bT ?_; exact BK418.out⟩, ⟨bA⟩⟩
     ·rw [if_neg c26] at H
      have c26b0 : (t421 == 0) = false := beq_eq_false_iff_ne.mpr c26
      have c26b1 : (t421 != 0) = true := bne_iff_ne.mpr c26
      (first | rw [c26b0] | (simp only [i64_w, i32_w]; rw [c26b0]) | skip)
      have H' := Ax.mk H
      clear H
      go_wp2
      go_meet
      case rel => exact ⟨_, (true), (by first | rfl | (simp; done) | (simp [*]; done)), H', ⟨by have := HJ5.out; first | omega | exact Nat.le_refl _⟩, ⟨by refine bT ?_; exact BK417.out⟩, ⟨by refine bT ?_; exact BK418.out⟩, ⟨bA⟩⟩
    case rest =>
     clear HC20
     try clear c1
     try clear c2
     try clear p2
     try clear c6
     try clear c9
     try clear c10
     try clear c11
     try clear c11b0
     try clear c11b1
     try clear c12
     try clear c14
     try clear c17
     try clear c21
     try clear c26
     try clear c26b0
     try clear c26b1
     try clear hcz13_0
     try clear hcz13_1
     try clear hcz13_2
     try clear hcz13_3
     try clear hcz15_0
     try clear hcz15_1
     try clear hcz15_2
     try clear hcz15_3
     try clear hcz16_0
     try clear hcz16_1
     try clear hcz16_2
     try clear hcz16_3
     try clear hcz22_0
     try clear hcz22_1
     try clear hcz22_2
     try clear hcz22_3
     try clear hcz24_0
     try clear hcz24_1
     try clear hcz24_2
     try clear hcz24_3
     try clear hfz13_0
     try clear hfz13_1
     try clear hfz13_2
     try clear hfz13_3
     try clear hfz15_0
     try clear hfz15_1
     try clear hfz15_2
     try clear hfz15_3
     try clear hfz16_0
     try clear hfz16_1
     try clear hfz16_2
     try clear hfz16_3
     try clear hfz22_0
     try clear hfz22_1
     try clear hfz22_2
     try clear hfz22_3
     try clear hfz24_0
     try clear hfz24_1
     try clear hfz24_2
     try clear hfz24_3
     try clear p2
     obtain ⟨kq, x57_19, rfl, HA, HJ19, BK417, BK418, HB⟩ := hcut
     cases kq with
     | zero => exact absurd HA.out (by simp [l6_HeadEither.j1])
     | succ kj19 =>
      have H := HA.out
      clear HA
      simp only [l6_HeadEither.j1] at H
      by_cases c27 : x57_19 = true
      ·subst c27
       have H1 : (some true) = some r := by rw [if_pos rfl] at H; exact H
       clear H
       have H := H1
       clear H1
       obtain rfl := Option.some.inj H
       go_wp2
       go_ret
       exact ⟨by first | rfl | (simp [errW_none, errW_some] <;> rfl) | (simp [*, errW_none, errW_some] <;> rfl), bA⟩
      ·replace c27 := Bool.eq_false_iff.mpr c27
       subst c27
       have H1 : ((head_Choose.f kj19 t420 t422).bind fun bt424 => ((head_Choose.f kj19 t422 t420).bind fun bt433 => (if bt424.2.2.2.2.2 = 0 then (if bt433.2.2.2.2.2 = 0 then (if ((bt424.2.2.2.2.1 == 1) != (decide (a1_0 > a0_0))) = true then (none) else (if ((bt433.2.2.2.2.1 == 1) != (decide (a0_0 > a1_0))) = true then (none) else (if a1_0 > a0_0 then ((l6_as.f a1_0 a1_1 a1_2 l1_3).bind fun bt442 => ((l6_same.f kj19 bt424.1 bt424.2.1 bt424.2.2.1 bt424.2.2.2.1 bt442.1 bt442.2.1 bt442.2.2.1 bt442.2.2.2).bind fun t448 => (if t448 = true then (if a0_0 = a1_0 then (l6_HeadEither.j2 kj19 a2 a3 t420 t422 false a0_0 a0_1 a0_2 l0_3) else ((l6_as.f bt424.1 bt424.2.1 bt424.2.2.1 bt424.2.2.2.1).bind fun bt449 => ((l6_same.f kj19 bt433.1 bt433.2.1 bt433.2.2.1 bt433.2.2.2.1 bt449.1 bt449.2.1 bt449.2.2.1 bt449.2.2.2).bind fun t455 => (l6_HeadEither.j2 kj19 a2 a3 t420 t422 (!t455) a0_0 a0_1 a0_2 l0_3)))) else (none)))) else ((l6_as.f a0_0 a0_1 a0_2 l0_3).bind fun bt456 => ((l6_same.f kj19 bt424.1 bt424.2.1 bt424.2.2.1 bt424.2.2.2.1 bt456.1 bt456.2.1 bt456.2.2.1 bt456.2.2.2).bind fun t462 => (if t462 = true then (if a0_0 = a1_0 then (l6_HeadEither.j2 kj19 a2 a3 t420 t422 false a0_0 a0_1 a0_2 l0_3) else ((l6_as.f bt424.1 bt424.2.1 bt424.2.2.1 bt424.2.2.2.1).bind fun bt463 => ((l6_same.f kj19 bt433.1 bt433.2.1 bt433.2.2.1 bt433.2.2.2.1 bt463.1 bt463.2.1 bt463.2.2.1 bt463.2.2.2).bind fun t469 => (l6_HeadEither.j2 kj19 a2 a3 t420 t422 (!t469) a0_0 a0_1 a0_2 l0_3)))) else (none))))))) else (none)) else (none)))) = some r := by rw [if_neg (show ¬ (false = true) by decide)] at H; exact H
       clear H
       have H := H1
       clear H1
       replace H := Option.bind_eq_some_iff.mp H
       obtain ⟨⟨t424, t425, t426, t427, t430, t431⟩, A280, H⟩ := H
       replace H : ((head_Choose.f kj19 t422 t420).bind fun bt433 => (if t431 = 0 then (if bt433.2.2.2.2.2 = 0 then (if ((t430 == 1) != (decide (a1_0 > a0_0))) = true then (none) else (if ((bt433.2.2.2.2.1 == 1) != (decide (a0_0 > a1_0))) = true then (none) else (if a1_0 > a0_0 then ((l6_as.f a1_0 a1_1 a1_2 l1_3).bind fun bt442 => ((l6_same.f kj19 t424 t425 t426 t427 bt442.1 bt442.2.1 bt442.2.2.1 bt442.2.2.2).bind fun t448 => (if t448 = true then (if a0_0 = a1_0 then (l6_HeadEither.j2 kj19 a2 a3 t420 t422 false a0_0 a0_1 a0_2 l0_3) else ((l6_as.f t424 t425 t426 t427).bind fun bt449 => ((l6_same.f kj19 bt433.1 bt433.2.1 bt433.2.2.1 bt433.2.2.2.1 bt449.1 bt449.2.1 bt449.2.2.1 bt449.2.2.2).bind fun t455 => (l6_HeadEither.j2 kj19 a2 a3 t420 t422 (!t455) a0_0 a0_1 a0_2 l0_3)))) else (none)))) else ((l6_as.f a0_0 a0_1 a0_2 l0_3).bind fun bt456 => ((l6_same.f kj19 t424 t425 t426 t427 bt456.1 bt456.2.1 bt456.2.2.1 bt456.2.2.2).bind fun t462 => (if t462 = true then (if a0_0 = a1_0 then (l6_HeadEither.j2 kj19 a2 a3 t420 t422 false a0_0 a0_1 a0_2 l0_3) else ((l6_as.f t424 t425 t426 t427).bind fun bt463 => ((l6_same.f kj19 bt433.1 bt433.2.1 bt433.2.2.1 bt433.2.2.2.1 bt463.1 bt463.2.1 bt463.2.2.1 bt463.2.2.2).bind fun t469 => (l6_HeadEither.j2 kj19 a2 a3 t420 t422 (!t469) a0_0 a0_1 a0_2 l0_3)))) else (none))))))) else (none)) else (none))) = some r := H
       have A28 := Ax.mk A280
       clear A280
       replace H := Option.bind_eq_some_iff.mp H
       obtain ⟨⟨t433, t434, t435, t436, t439, t440⟩, A290, H⟩ := H
       replace H : (if t431 = 0 then (if t440 = 0 then (if ((t430 == 1) != (decide (a1_0 > a0_0))) = true then (none) else (if ((t439 == 1) != (decide (a0_0 > a1_0))) = true then (none) else (if a1_0 > a0_0 then ((l6_as.f a1_0 a1_1 a1_2 l1_3).bind fun bt442 => ((l6_same.f kj19 t424 t425 t426 t427 bt442.1 bt442.2.1 bt442.2.2.1 bt442.2.2.2).bind fun t448 => (if t448 = true then (if a0_0 = a1_0 then (l6_HeadEither.j2 kj19 a2 a3 t420 t422 false a0_0 a0_1 a0_2 l0_3) else ((l6_as.f t424 t425 t426 t427).bind fun bt449 => ((l6_same.f kj19 t433 t434 t435 t436 bt449.1 bt449.2.1 bt449.2.2.1 bt449.2.2.2).bind fun t455 => (l6_HeadEither.j2 kj19 a2 a3 t420 t422 (!t455) a0_0 a0_1 a0_2 l0_3)))) else (none)))) else ((l6_as.f a0_0 a0_1 a0_2 l0_3).bind fun bt456 => ((l6_same.f kj19 t424 t425 t426 t427 bt456.1 bt456.2.1 bt456.2.2.1 bt456.2.2.2).bind fun t462 => (if t462 = true then (if a0_0 = a1_0 then (l6_HeadEither.j2 kj19 a2 a3 t420 t422 false a0_0 a0_1 a0_2 l0_3) else ((l6_as.f t424 t425 t426 t427).bind fun bt463 => ((l6_same.f kj19 t433 t434 t435 t436 bt463.1 bt463.2.1 bt463.2.2.1 bt463.2.2.2).bind fun t469 => (l6_HeadEither.j2 kj19 a2 a3 t420 t422 (!t469) a0_0 a0_1 a0_2 l0_3)))) else (none))))))) else (none)) else (none)) = some r := H
       have A29 := Ax.mk A290
       clear A290
       have HC30 := Ax.mk H
       clear H
       go_upto_region 11 with (first | ((with_reducible refine gate_callee (f := 18) rfl ?_); refine goesL_ (some 61) rfl rfl Tryd.func18 (by kernel_rfl) rfl #[.string t420, .string t422] rfl (by (try simp only [List.map_toArray, List.map_cons, List.map_nil]); first | done | rfl | (simp only [List.length_drop, List.length_take]; rfl) | (rw [wrap_sum2 (by assumption)]; rfl)) ?_; (with_reducible refine (head_Choose.calls kj19 t420 t422 t424 t425 t426 t427 t430 t431 _ A28.out).mono ?_); rintro e w31 ⟨v428, rfl, ho0, hb⟩; refine ⟨_, rfl, ?_⟩; have n0_ := Ax.mk (Kd.R_lower ho0 (bS bA)); have n1_ := Ax.mk (bB (bT BK417.out) hb); have n2_ := Ax.mk (bB (bT BK418.out) hb); have n3_ := Ax.mk (bP bA hb); clear BK417; clear BK418; clear HB; have HO429 := n0_; have BK417 := n1_; have BK418 := n2_; have HB := n3_; clear n0_ n1_ n2_ n3_; (try clear hb); (try clear hb2); (try clear hk); (try clear hi); (try clear ho0)) | ((with_reducible refine gate_dst (N := 14) rfl ?_); (try (refine gate_guard (by rfl) ?_; dsimp only)); refine box_event ?hg (N := 14) ?hd (cs := #[.int .u64 0, .int .i64 0, .int .i64 0, .slice none 0 0]) (t := 25) ?hr ?_; (case hd => rfl); (case hg => rfl); (case hr => first | (go_simp; done) | (go_simp; rfl)); intro gb432 hg w32 hbox hb; have n0_ := Ax.mk (Kd.R_below (by exact Kd.R_to HO429.out) hb); have n1_ := Ax.mk (bB (bT BK417.out) hb); have n2_ := Ax.mk (bB (bT BK418.out) hb); have n3_ := Ax.mk (bP bA hb); have n4_ := Ax.mk (hbox); have n5_ := Ax.mk ((ge_new hg : w.heap.size ≤ gb432)); have n6_ := n5_; have n7_ := Ax.mk ((ne_lt hg BK417.out : gb417 ≠ gb432)); have n8_ := Ax.mk ((ne_gt hg BK417.out : gb432 ≠ gb417)); have n9_ := Ax.mk ((ne_lt hg BK418.out : gb418 ≠ gb432)); have n10_ := Ax.mk ((ne_gt hg BK418.out : gb432 ≠ gb418)); clear HO429; clear BK417; clear BK418; clear HB; have HO429 := n0_; have BK417 := n1_; have BK418 := n2_; have HB := n3_; have BK432 := n4_; have GW432 := n5_; have GE432 := n6_; have NB417_432 := n7_; have NB432_417 := n8_; have NB418_432 := n9_; have NB432_418 := n10_; clear n0_ n1_ n2_ n3_ n4_ n5_ n6_ n7_ n8_ n9_ n10_; clear hb hbox hg; have hnb33 := NB432_417.out; have hnc33 := NB417_432.out; have hnb34 := NB432_418.out; have hnc34 := NB418_432.out; have hcz35_0 : w32.cell? ⟨gb432, 0, none⟩ = some (.int .u64 0) := (bC BK432.out 0).trans rfl; have hcz35_1 : w32.cell? ⟨gb432, 1, none⟩ = some (.int .i64 0) := (bC BK432.out 1).trans rfl; have hcz35_2 : w32.cell? ⟨gb432, 2, none⟩ = some (.int .i64 0) := (bC BK432.out 2).trans rfl; have hcz35_3 : w32.cell? ⟨gb432, 3, none⟩ = some (.slice none 0 0) := (bC BK432.out 3).trans rfl; have hfz35_0 := bF BK432.out 0; have hfz35_1 := bF BK432.out 1; have hfz35_2 := bF BK432.out 2; have hfz35_3 := bF BK432.out 3; obtain ⟨Ao36, co36, eo36⟩ := Kd.R_slice HO429.out; subst eo36) | ((with_reducible refine gate_callee (f := 18) rfl ?_); refine goesL_ (some 68) rfl rfl Tryd.func18 (by kernel_rfl) rfl #[.string t422, .string t420] rfl (by (try simp only [List.map_toArray, List.map_cons, List.map_nil]); first | done | rfl | (simp only [List.length_drop, List.length_take]; rfl) | (rw [wrap_sum2 (by assumption)]; rfl)) ?_; (with_reducible refine (head_Choose.calls kj19 t422 t420 t433 t434 t435 t436 t439 t440 _ A29.out).mono ?_); rintro e w37 ⟨v437, rfl, ho0, hb⟩; refine ⟨_, rfl, ?_⟩; have n0_ := Ax.mk (Kd.R_elder' (by apply Kd.R_to; exact (Kd.R_mono (Kd.R_far (p := ⟨gb432, 3, none⟩) (Kd.R_far (p := ⟨gb432, 2, none⟩) (Kd.R_far (p := ⟨gb432, 1, none⟩) (Kd.R_far (p := ⟨gb432, 0, none⟩) (Kd.R_types HO429.out BK432.out (by decide)) (fun _ hk => hk.2) (.int .u64 t424)) (fun _ hk => hk.2) (.int .i64 t425)) (fun _ hk => hk.2) (.int .i64 t426)) (fun _ hk => hk.2) (.slice Ao36 t427.length co36)) (fun _ h_ => h_.1))) (Kd.R_base ho0) hb); have n1_ := Ax.mk (Kd.R_lower (Kd.R_new' ho0 (Kd.R_lt (by apply Kd.R_to; exact (Kd.R_mono (Kd.R_far (p := ⟨gb432, 3, none⟩) (Kd.R_far (p := ⟨gb432, 2, none⟩) (Kd.R_far (p := ⟨gb432, 1, none⟩) (Kd.R_far (p := ⟨gb432, 0, none⟩) (Kd.R_types HO429.out BK432.out (by decide)) (fun _ hk => hk.2) (.int .u64 t424)) (fun _ hk => hk.2) (.int .i64 t425)) (fun _ hk => hk.2) (.int .i64 t426)) (fun _ hk => hk.2) (.slice Ao36 t427.length co36)) (fun _ h_ => h_.1))))) (bS bA)); have n2_ := Ax.mk (bB (g := gb417) (o := .cells #[.int .u64 a0_0, .int .i64 a0_1, .int .i64 a0_2, .slice A0_3 l0_3.length c0_3] 25 (0, 0)) (by refine bT ?_; refine bR ?_ NB417_432.out _; refine bT ?_; refine bR ?_ NB417_432.out _; refine bT ?_; refine bR ?_ NB417_432.out _; refine bT ?_; refine bR ?_ NB417_432.out _; exact bT BK417.out) hb); have n3_ := Ax.mk (bB (g := gb418) (o := .cells #[.int .u64 a1_0, .int .i64 a1_1, .int .i64 a1_2, .slice A1_3 l1_3.length c1_3] 25 (0, 0)) (by refine bT ?_; refine bR ?_ NB418_432.out _; refine bT ?_; refine bR ?_ NB418_432.out _; refine bT ?_; refine bR ?_ NB418_432.out _; refine bT ?_; refine bR ?_ NB418_432.out _; exact bT BK418.out) hb); have n4_ := Ax.mk (bB (g := gb432) (o := .cells #[.int .u64 t424, .int .i64 t425, .int .i64 t426, .slice Ao36 t427.length co36] 25 (0, 0)) (by refine bT ?_; refine bU (cs := #[.int .u64 t424, .int .i64 t425, .int .i64 t426, .slice none 0 0]) ?_ 3 _ rfl; refine bT ?_; refine bU (cs := #[.int .u64 t424, .int .i64 t425, .int .i64 0, .slice none 0 0]) ?_ 2 _ rfl; refine bT ?_; refine bU (cs := #[.int .u64 t424, .int .i64 0, .int .i64 0, .slice none 0 0]) ?_ 1 _ rfl; refine bT ?_; refine bU (cs := #[.int .u64 0, .int .i64 0, .int .i64 0, .slice none 0 0]) ?_ 0 _ rfl; exact bT BK432.out) hb); have n5_ := Ax.mk (bP bA hb); clear HO429; clear BK417; clear BK418; clear BK432; clear HB; have HO429 := n0_; have HO438 := n1_; have BK417 := n2_; have BK418 := n3_; have BK432 := n4_; have HB := n5_; clear n0_ n1_ n2_ n3_ n4_ n5_; (try clear hb); (try clear hb2); (try clear hk); (try clear hi); (try clear ho0)) | ((with_reducible refine gate_dst (N := 17) rfl ?_); (try (refine gate_guard (by rfl) ?_; dsimp only)); refine box_event ?hg (N := 17) ?hd (cs := #[.int .u64 0, .int .i64 0, .int .i64 0, .slice none 0 0]) (t := 25) ?hr ?_; (case hd => rfl); (case hg => rfl); (case hr => first | (go_simp; done) | (go_simp; rfl)); intro gb441 hg w38 hbox hb; have n0_ := Ax.mk (Kd.R_below (by exact Kd.R_to HO429.out) hb); have n1_ := Ax.mk (Kd.R_below (by exact Kd.R_to HO438.out) hb); have n2_ := Ax.mk (bB (bT BK417.out) hb); have n3_ := Ax.mk (bB (bT BK418.out) hb); have n4_ := Ax.mk (bB (bT BK432.out) hb); have n5_ := Ax.mk (bP bA hb); have n6_ := Ax.mk (hbox); have n7_ := Ax.mk ((ge_new hg : w.heap.size ≤ gb441)); have n8_ := n7_; have n9_ := Ax.mk ((ne_lt hg BK417.out : gb417 ≠ gb441)); have n10_ := Ax.mk ((ne_gt hg BK417.out : gb441 ≠ gb417)); have n11_ := Ax.mk ((ne_lt hg BK418.out : gb418 ≠ gb441)); have n12_ := Ax.mk ((ne_gt hg BK418.out : gb441 ≠ gb418)); have n13_ := Ax.mk ((ne_lt hg BK432.out : gb432 ≠ gb441)); have n14_ := Ax.mk ((ne_gt hg BK432.out : gb441 ≠ gb432)); clear HO429; clear HO438; clear BK417; clear BK418; clear BK432; clear HB; have HO429 := n0_; have HO438 := n1_; have BK417 := n2_; have BK418 := n3_; have BK432 := n4_; have HB := n5_; have BK441 := n6_; have GW441 := n7_; have GE441 := n8_; have NB417_441 := n9_; have NB441_417 := n10_; have NB418_441 := n11_; have NB441_418 := n12_; have NB432_441 := n13_; have NB441_432 := n14_; clear n0_ n1_ n2_ n3_ n4_ n5_ n6_ n7_ n8_ n9_ n10_ n11_ n12_ n13_ n14_; clear hb hbox hg; have hnb39 := NB441_417.out; have hnc39 := NB417_441.out; have hnb40 := NB441_418.out; have hnc40 := NB418_441.out; have hnb41 := NB441_432.out; have hnc41 := NB432_441.out; have hcz42_0 : w38.cell? ⟨gb441, 0, none⟩ = some (.int .u64 0) := (bC BK441.out 0).trans rfl; have hcz42_1 : w38.cell? ⟨gb441, 1, none⟩ = some (.int .i64 0) := (bC BK441.out 1).trans rfl; have hcz42_2 : w38.cell? ⟨gb441, 2, none⟩ = some (.int .i64 0) := (bC BK441.out 2).trans rfl; have hcz42_3 : w38.cell? ⟨gb441, 3, none⟩ = some (.slice none 0 0) := (bC BK441.out 3).trans rfl; have hfz42_0 := bF BK441.out 0; have hfz42_1 := bF BK441.out 1; have hfz42_2 := bF BK441.out 2; have hfz42_3 := bF BK441.out 3; obtain ⟨Ao43, co43, eo43⟩ := Kd.R_slice HO438.out; subst eo43; have hnb44 := NB418_417.out; have hnc44 := NB417_418.out; have hcz45_0 : w38.cell? ⟨gb418, 0, none⟩ = some (.int .u64 a1_0) := (bC BK418.out 0).trans rfl; have hcz45_1 : w38.cell? ⟨gb418, 1, none⟩ = some (.int .i64 a1_1) := (bC BK418.out 1).trans rfl; have hcz45_2 : w38.cell? ⟨gb418, 2, none⟩ = some (.int .i64 a1_2) := (bC BK418.out 2).trans rfl; have hcz45_3 : w38.cell? ⟨gb418, 3, none⟩ = some (.slice A1_3 l1_3.length c1_3) := (bC BK418.out 3).trans rfl; have hfz45_0 := bF BK418.out 0; have hfz45_1 := bF BK418.out 1; have hfz45_2 := bF BK418.out 2; have hfz45_3 := bF BK418.out 3; have hcz46_0 : w38.cell? ⟨gb417, 0, none⟩ = some (.int .u64 a0_0) := (bC BK417.out 0).trans rfl; have hcz46_1 : w38.cell? ⟨gb417, 1, none⟩ = some (.int .i64 a0_1) := (bC BK417.out 1).trans rfl; have hcz46_2 : w38.cell? ⟨gb417, 2, none⟩ = some (.int .i64 a0_2) := (bC BK417.out 2).trans rfl; have hcz46_3 : w38.cell? ⟨gb417, 3, none⟩ = some (.slice A0_3 l0_3.length c0_3) := (bC BK417.out 3).trans rfl; have hfz46_0 := bF BK417.out 0; have hfz46_1 := bF BK417.out 1; have hfz46_2 := bF BK417.out 2; have hfz46_3 := bF BK417.out 3))
       (try simp only [Act.put, sI, sZ, sS])
       go_cut [133] (fun v133 wc => ∃ (kq : Nat) (x133_29 : Bool), v133 = .bool x133_29 ∧ Ax (l6_HeadEither.j2 kq a2 a3 t420 t422 x133_29 a0_0 a0_1 a0_2 l0_3 = some r) ∧ Ax (kq ≤ kj19) ∧ Ax (Kd.R k53 53 wc w.heap.size (fun k_ => some k_ ≠ ((.slice Ao43 t436.length co43) : Value).ownBlock) (.slice Ao36 t427.length co36) t427) ∧ Ax (Kd.R k53 53 wc w.heap.size (fun k_ => some k_ ≠ ((.slice Ao36 t427.length co36) : Value).ownBlock) (.slice Ao43 t436.length co43) t436) ∧ Ax (wc.heap[gb417]? = some (.cells #[.int .u64 a0_0, .int .i64 a0_1, .int .i64 a0_2, (.slice A0_3 l0_3.length c0_3)] 25 (0, 0))) ∧ Ax (wc.heap[gb418]? = some (.cells #[.int .u64 a1_0, .int .i64 a1_1, .int .i64 a1_2, (.slice A1_3 l1_3.length c1_3)] 25 (0, 0))) ∧ Ax (wc.heap[gb432]? = some (.cells #[.int .u64 t424, .int .i64 t425, .int .i64 t426, (.slice Ao36 t427.length co36)] 25 (0, 0))) ∧ Ax (wc.heap[gb441]? = some (.cells #[.int .u64 t433, .int .i64 t434, .int .i64 t435, (.slice Ao43 t436.length co43)] 25 (0, 0))) ∧ Ax (Below w.heap.size w wc))
       case first =>
        have H := HC30.out
        clear HC30
        by_cases c47 : t431 = 0
        ·rw [if_pos c47] at H
         have c47b0 : (t431 == 0) = true := beq_iff_eq.mpr c47
         have c47b1 : (t431 != 0) = false := bne_eq_false_iff_eq.mpr c47
         clear c47
         (first | rw [c47b0] | (simp only [i64_w, i32_w]; rw [c47b0]) | skip)
         by_cases c48 : t440 = 0
         ·rw [if_pos c48] at H
          have c48b0 : (t440 == 0) = true := beq_iff_eq.mpr c48
          have c48b1 : (t440 != 0) = false := bne_eq_false_iff_eq.mpr c48
          clear c48
          by_cases c49 : ((t430 == 1) != (decide (a1_0 > a0_0))) = true
          ·rw [if_pos c49] at H
           have c49b0 : ((t430 == 1) != (decide (a1_0 > a0_0))) = true := c49
           (try (have c49b1 : decide ((t430 == 1) = (decide (a1_0 > a0_0))) = false := by simpa using c49))
           (try (have c49b2 : ((t430 == 1) == (decide (a1_0 > a0_0))) = false := by simpa using c49))
           (try (have c49b3 : ¬ ((t430 == 1) = (decide (a1_0 > a0_0))) := by simpa using c49))
           clear c49
           exact absurd H (by simp)
          ·rw [if_neg c49] at H
           have c49b0 : ((t430 == 1) != (decide (a1_0 > a0_0))) = false := by simpa using c49
           (try (have c49b1 : decide ((t430 == 1) = (decide (a1_0 > a0_0))) = true := by simpa using c49))
           (try (have c49b2 : ((t430 == 1) == (decide (a1_0 > a0_0))) = true := by simpa using c49))
           clear c49
           by_cases c50 : ((t439 == 1) != (decide (a0_0 > a1_0))) = true
           ·rw [if_pos c50] at H
            have c50b0 : ((t439 == 1) != (decide (a0_0 > a1_0))) = true := c50
            (try (have c50b1 : decide ((t439 == 1) = (decide (a0_0 > a1_0))) = false := by simpa using c50))
            (try (have c50b2 : ((t439 == 1) == (decide (a0_0 > a1_0))) = false := by simpa using c50))
            (try (have c50b3 : ¬ ((t439 == 1) = (decide (a0_0 > a1_0))) := by simpa using c50))
            clear c50
            exact absurd H (by simp)
           ·rw [if_neg c50] at H
            have c50b0 : ((t439 == 1) != (decide (a0_0 > a1_0))) = false := by simpa using c50
            (try (have c50b1 : decide ((t439 == 1) = (decide (a0_0 > a1_0))) = true := by simpa using c50))
            (try (have c50b2 : ((t439 == 1) == (decide (a0_0 > a1_0))) = true := by simpa using c50))
            clear c50
            by_cases c51 : a1_0 > a0_0
            ·rw [if_pos c51] at H
             have c51b0 : decide (a0_0 < a1_0) = true := decide_eq_true c51
             have c49e : (t430 == 1) = true := (bne_eq_false_iff_eq.mp c49b0).trans c51b0
             clear c51
             replace H := Option.bind_eq_some_iff.mp H
             obtain ⟨⟨t442, t443, t444, t445⟩, A520, H⟩ := H
             replace H : ((l6_same.f kj19 t424 t425 t426 t427 t442 t443 t444 t445).bind fun t448 => (if t448 = true then (if a0_0 = a1_0 then (l6_HeadEither.j2 kj19 a2 a3 t420 t422 false a0_0 a0_1 a0_2 l0_3) else ((l6_as.f t424 t425 t426 t427).bind fun bt449 => ((l6_same.f kj19 t433 t434 t435 t436 bt449.1 bt449.2.1 bt449.2.2.1 bt449.2.2.2).bind fun t455 => (l6_HeadEither.j2 kj19 a2 a3 t420 t422 (!t455) a0_0 a0_1 a0_2 l0_3)))) else (none))) = some r := H
             have A52 := Ax.mk A520
             clear A520
             replace H := Option.bind_eq_some_iff.mp H
             obtain ⟨t448, A530, H⟩ := H
             replace H : (if t448 = true then (if a0_0 = a1_0 then (l6_HeadEither.j2 kj19 a2 a3 t420 t422 false a0_0 a0_1 a0_2 l0_3) else ((l6_as.f t424 t425 t426 t427).bind fun bt449 => ((l6_same.f kj19 t433 t434 t435 t436 bt449.1 bt449.2.1 bt449.2.2.1 bt449.2.2.2).bind fun t455 => (l6_HeadEither.j2 kj19 a2 a3 t420 t422 (!t455) a0_0 a0_1 a0_2 l0_3)))) else (none)) = some r := H
             have A53 := Ax.mk A530
             clear A530
             by_cases c54 : t448 = true
             ·subst c54
              have H1 : (if a0_0 = a1_0 then (l6_HeadEither.j2 kj19 a2 a3 t420 t422 false a0_0 a0_1 a0_2 l0_3) else ((l6_as.f t424 t425 t426 t427).bind fun bt449 => ((l6_same.f kj19 t433 t434 t435 t436 bt449.1 bt449.2.1 bt449.2.2.1 bt449.2.2.2).bind fun t455 => (l6_HeadEither.j2 kj19 a2 a3 t420 t422 (!t455) a0_0 a0_1 a0_2 l0_3)))) = some r := by rw [if_pos rfl] at H; exact H
              clear H
              have H := H1
              clear H1
              by_cases c55 : a0_0 = a1_0
              ·rw [if_pos c55] at H
               have c55b0 : (a0_0 == a1_0) = true := beq_iff_eq.mpr c55
               have c55b1 : (a0_0 != a1_0) = false := bne_eq_false_iff_eq.mpr c55
               clear c55
               have H' := Ax.mk H
               clear H
               try go_wp2
               have n0_ : Ax (Kd.R k53 53 ((((w38.setCell ⟨gb441, 0, none⟩ (.int .u64 t433)).setCell ⟨gb441, 1, none⟩ (.int .i64 t434)).setCell ⟨gb441, 2, none⟩ (.int .i64 t435)).setCell ⟨gb441, 3, none⟩ (.slice Ao43 t436.length co43)) w.heap.size (fun k_ => some k_ ≠ (.slice Ao43 t436.length co43 : Value).ownBlock) (.slice Ao36 t427.length co36) t427) := ⟨by apply Kd.R_to; exact Kd.R_mono (Kd.R_far (p := ⟨gb441, 3, none⟩) (Kd.R_far (p := ⟨gb441, 2, none⟩) (Kd.R_far (p := ⟨gb441, 1, none⟩) (Kd.R_far (p := ⟨gb441, 0, none⟩) (Kd.R_types HO429.out BK441.out (by decide)) (fun _ hk => hk.2) (.int .u64 t433)) (fun _ hk => hk.2) (.int .i64 t434)) (fun _ hk => hk.2) (.int .i64 t435)) (fun _ hk => hk.2) (.slice Ao43 t436.length co43)) (fun _ hk => hk.1.2)⟩
               have n1_ : Ax (Kd.R k53 53 ((((w38.setCell ⟨gb441, 0, none⟩ (.int .u64 t433)).setCell ⟨gb441, 1, none⟩ (.int .i64 t434)).setCell ⟨gb441, 2, none⟩ (.int .i64 t435)).setCell ⟨gb441, 3, none⟩ (.slice Ao43 t436.length co43)) w.heap.size (fun k_ => some k_ ≠ (.slice Ao36 t427.length co36 : Value).ownBlock) (.slice Ao43 t436.length co43) t436) := ⟨by apply Kd.R_to; exact Kd.R_mono (Kd.R_far (p := ⟨gb441, 3, none⟩) (Kd.R_far (p := ⟨gb441, 2, none⟩) (Kd.R_far (p := ⟨gb441, 1, none⟩) (Kd.R_far (p := ⟨gb441, 0, none⟩) (Kd.R_types HO438.out BK441.out (by decide)) (fun _ hk => hk.2) (.int .u64 t433)) (fun _ hk => hk.2) (.int .i64 t434)) (fun _ hk => hk.2) (.int .i64 t435)) (fun _ hk => hk.2) (.slice Ao43 t436.length co43)) (fun _ hk => hk.1.2)⟩
               have n2_ : Ax (((((w38.setCell ⟨gb441, 0, none⟩ (.int .u64 t433)).setCell ⟨gb441, 1, none⟩ (.int .i64 t434)).setCell ⟨gb441, 2, none⟩ (.int .i64 t435)).setCell ⟨gb441, 3, none⟩ (.slice Ao43 t436.length co43)).heap[gb417]? = some (.cells #[.int .u64 a0_0, .int .i64 a0_1, .int .i64 a0_2, .slice A0_3 l0_3.length c0_3] 25 (0, 0))) := ⟨by refine bT ?_; refine bR ?_ NB417_441.out _; refine bT ?_; refine bR ?_ NB417_441.out _; refine bT ?_; refine bR ?_ NB417_441.out _; refine bT ?_; refine bR ?_ NB417_441.out _; refine bT ?_; exact BK417.out⟩
               have n3_ : Ax (((((w38.setCell ⟨gb441, 0, none⟩ (.int .u64 t433)).setCell ⟨gb441, 1, none⟩ (.int .i64 t434)).setCell ⟨gb441, 2, none⟩ (.int .i64 t435)).setCell ⟨gb441, 3, none⟩ (.slice Ao43 t436.length co43)).heap[gb418]? = some (.cells #[.int .u64 a1_0, .int .i64 a1_1, .int .i64 a1_2, .slice A1_3 l1_3.length c1_3] 25 (0, 0))) := ⟨by refine bT ?_; refine bR ?_ NB418_441.out _; refine bT ?_; refine bR ?_ NB418_441.out _; refine bT ?_; refine bR ?_ NB418_441.out _; refine bT ?_; refine bR ?_ NB418_441.out _; refine bT ?_; exact BK418.out⟩
               have n4_ : Ax (((((w38.setCell ⟨gb441, 0, none⟩ (.int .u64 t433)).setCell ⟨gb441, 1, none⟩ (.int .i64 t434)).setCell ⟨gb441, 2, none⟩ (.int .i64 t435)).setCell ⟨gb441, 3, none⟩ (.slice Ao43 t436.length co43)).heap[gb432]? = some (.cells #[.int .u64 t424, .int .i64 t425, .int .i64 t426, .slice Ao36 t427.length co36] 25 (0, 0))) := ⟨by refine bT ?_; refine bR ?_ NB432_441.out _; refine bT ?_; refine bR ?_ NB432_441.out _; refine bT ?_; refine bR ?_ NB432_441.out _; refine bT ?_; refine bR ?_ NB432_441.out _; refine bT ?_; exact BK432.out⟩
               have n5_ : Ax (((((w38.setCell ⟨gb441, 0, none⟩ (.int .u64 t433)).setCell ⟨gb441, 1, none⟩ (.int .i64 t434)).setCell ⟨gb441, 2, none⟩ (.int .i64 t435)).setCell ⟨gb441, 3, none⟩ (.slice Ao43 t436.length co43)).heap[gb441]? = some (.cells #[.int .u64 t433, .int .i64 t434, .int .i64 t435, .slice Ao43 t436.length co43] 25 (0, 0))) := ⟨by refine bT ?_; refine bU (cs := #[.int .u64 t433, .int .i64 t434, .int .i64 t435, .slice none 0 0]) ?_ 3 _ rfl; refine bT ?_; refine bU (cs := #[.int .u64 t433, .int .i64 t434, .int .i64 0, .slice none 0 0]) ?_ 2 _ rfl; refine bT ?_; refine bU (cs := #[.int .u64 t433, .int .i64 0, .int .i64 0, .slice none 0 0]) ?_ 1 _ rfl; refine bT ?_; refine bU (cs := #[.int .u64 0, .int .i64 0, .int .i64 0, .slice none 0 0]) ?_ 0 _ rfl; refine bT ?_; exact BK441.out⟩
               have n6_ : Ax (Below w.heap.size w ((((w38.setCell ⟨gb441, 0, none⟩ (.int .u64 t433)).setCell ⟨gb441, 1, none⟩ (.int .i64 t434)).setCell ⟨gb441, 2, none⟩ (.int .i64 t435)).setCell ⟨gb441, 3, none⟩ (.slice Ao43 t436.length co43))) := ⟨bA⟩
               (try clear HO429)
               (try clear HO438)
               (try clear BK417)
               (try clear BK418)
               (try clear BK432)
               (try clear BK441)
               (try clear HB)
               generalize ((((w38.setCell ⟨gb441, 0, none⟩ (.int .u64 t433)).setCell ⟨gb441, 1, none⟩ (.int .i64 t434)).setCell ⟨gb441, 2, none⟩ (.int .i64 t435)).setCell ⟨gb441, 3, none⟩ (.slice Ao43 t436.length co43)) = w56 at n0_ n1_ n2_ n3_ n4_ n5_ n6_ ⊢
               have HO429 := n0_
               have HO438 := n1_
               have BK417 := n2_
               have BK418 := n3_
               have BK432 := n4_
               have BK441 := n5_
               have HB := n6_
               clear n0_ n1_ n2_ n3_ n4_ n5_ n6_
               have n0_ := Ax.mk (Kd.R_drew HO429.out)
               have n1_ := Ax.mk (Kd.R_drew HO438.out)
               have n2_ := Ax.mk (blk_drew BK417.out)
               have n3_ := Ax.mk (blk_drew BK418.out)
               have n4_ := Ax.mk (blk_drew BK432.out)
               have n5_ := Ax.mk (blk_drew BK441.out)
               have n6_ := Ax.mk (below_drew1 HB.out)
               clear HO429
               clear HO438
               clear BK417
               clear BK418
               clear BK432
               clear BK441
               clear HB
               have HO429 := n0_
               have HO438 := n1_
               have BK417 := n2_
               have BK418 := n3_
               have BK432 := n4_
               have BK441 := n5_
               have HB := n6_
               clear n0_ n1_ n2_ n3_ n4_ n5_ n6_
               as_aux_lemma =>
               refine start_ (n := 57) (S := fun w' => w'.cell? ⟨gb417, 0, none⟩ = some (.int .u64 a0_0) ∧ w'.cell? ⟨gb417, 1, none⟩ = some (.int .i64 a0_1) ∧ w'.cell? ⟨gb417, 2, none⟩ = some (.int .i64 a0_2) ∧ w'.cell? ⟨gb417, 3, none⟩ = some (.slice A0_3 l0_3.length c0_3) ∧ w'.cell? ⟨gb418, 0, none⟩ = some (.int .u64 a1_0) ∧ w'.cell? ⟨gb418, 1, none⟩ = some (.int .i64 a1_1) ∧ w'.cell? ⟨gb418, 2, none⟩ = some (.int .i64 a1_2) ∧ w'.cell? ⟨gb418, 3, none⟩ = some (.slice A1_3 l1_3.length c1_3) ∧ w'.cell? ⟨gb432, 0, none⟩ = some (.int .u64 t424) ∧ w'.cell? ⟨gb432, 1, none⟩ = some (.int .i64 t425) ∧ w'.cell? ⟨gb432, 2, none⟩ = some (.int .i64 t426) ∧ w'.cell? ⟨gb432, 3, none⟩ = some (.slice Ao36 t427.length co36)) (ds := []) (TF 0 57) (by kernel_rfl) rfl rfl ⟨(bC BK417.out 0).trans rfl, (bC BK417.out 1).trans rfl, (bC BK417.out 2).trans rfl, (bC BK417.out 3).trans rfl, (bC BK418.out 0).trans rfl, (bC BK418.out 1).trans rfl, (bC BK418.out 2).trans rfl, (bC BK418.out 3).trans rfl, (bC BK432.out 0).trans rfl, (bC BK432.out 1).trans rfl, (bC BK432.out 2).trans rfl, (bC BK432.out 3).trans rfl⟩ (fun hHeld => ?_); refine with_tabW l6_HeadEither.tab11 l6_HeadEither.bits11 (fun HT_ HW_ => ?_)
               generalize w56.drew = w57 at HO429 HO438 BK417 BK418 BK432 BK441 HB hHeld ⊢
               refine pure_ (i := 0) (N := some 77) (v := ?_) (a' := ?_) (TF 1 56) rfl rfl (any_of HT_.out (by kernel_rfl)) (fun _ _ _ h => h) (Or.inl ⟨by rfl, ?_⟩) ?_ ?_
               rotate_left; · intro w'; go_simp; with_reducible rfl
               rotate_left; · simp only [Act.put, sI, sZ, sS, i64_w, i32_w]; rfl
               refine pure_ (i := 1) (N := some 78) (v := ?_) (a' := ?_) (TF 2 55) rfl rfl (any_of HT_.out (by kernel_rfl)) (fun _ _ _ h => h) (Or.inl ⟨by rfl, ?_⟩) ?_ ?_
               rotate_left; · intro w'; go_simp; with_reducible rfl
               rotate_left; · simp only [Act.put, sI, sZ, sS, i64_w, i32_w]; rfl
               refine pure_ (i := 2) (N := some 79) (v := ?_) (a' := ?_) (TF 3 54) rfl rfl (any_of HT_.out (by kernel_rfl)) (fun _ _ _ h => h) (Or.inl ⟨by rfl, ?_⟩) ?_ ?_
               rotate_left; · intro w'; go_simp; with_reducible rfl
               rotate_left; · simp only [Act.put, sI, sZ, sS, i64_w, i32_w]; rfl
               refine pure_ (i := 3) (N := some 80) (v := ?_) (a' := ?_) (TF 4 53) rfl rfl (any_of HT_.out (by kernel_rfl)) (fun _ _ _ h => h) (Or.inl ⟨by rfl, ?_⟩) ?_ ?_
               rotate_left; · intro w'; go_simp; with_reducible rfl
               rotate_left; · simp only [Act.put, sI, sZ, sS, i64_w, i32_w]; rfl
               refine pure_ (i := 4) (N := some 81) (v := ?_) (a' := ?_) (TF 5 52) rfl rfl (any_of HT_.out (by kernel_rfl)) (fun _ _ _ h => h) (Or.inl ⟨by rfl, ?_⟩) ?_ ?_
               rotate_left; · intro w'; go_simp; with_reducible rfl
               rotate_left; · simp only [Act.put, sI, sZ, sS, i64_w, i32_w]; rfl
               refine pure_ (i := 5) (N := some 82) (v := ?_) (a' := ?_) (TF 6 51) rfl rfl (any_of HT_.out (by kernel_rfl)) (fun _ _ _ h => h) (Or.inl ⟨by rfl, ?_⟩) ?_ ?_
               rotate_left; · intro w'; go_simp; with_reducible rfl
               rotate_left; · simp only [Act.put, sI, sZ, sS, i64_w, i32_w]; rfl
               refine pure_ (i := 6) (N := some 83) (v := ?_) (a' := ?_) (TF 7 50) rfl rfl (any_of HT_.out (by kernel_rfl)) (fun _ _ _ h => h) (Or.inl ⟨by rfl, ?_⟩) ?_ ?_
               rotate_left; · intro w'; go_simp; with_reducible rfl
               rotate_left; · simp only [Act.put, sI, sZ, sS, i64_w, i32_w]; rfl
               refine pure_ (i := 7) (N := some 84) (v := ?_) (a' := ?_) (TF 8 49) rfl rfl (any_of HT_.out (by kernel_rfl)) (fun _ _ _ h => h) (Or.inl ⟨by rfl, ?_⟩) ?_ ?_
               rotate_left; · intro w'; go_simp; with_reducible rfl
               rotate_left; · simp only [Act.put, sI, sZ, sS, i64_w, i32_w]; rfl
               refine pure_ (i := 8) (N := some 85) (v := ?_) (a' := ?_) (TF 9 48) rfl rfl (any_of HT_.out (by kernel_rfl)) (fun _ _ _ h => h) (Or.inl ⟨by rfl, ?_⟩) ?_ ?_
               rotate_left; · intro w'; go_simp; with_reducible rfl
               rotate_left; · simp only [Act.put, sI, sZ, sS, i64_w, i32_w]; rfl
               refine pure_ (i := 9) (N := some 86) (v := ?_) (a' := ?_) (TF 10 47) rfl rfl (any_of HT_.out (by kernel_rfl)) (fun _ _ _ h => h) (Or.inl ⟨by rfl, ?_⟩) ?_ ?_
               rotate_left; · intro w'; go_simp; with_reducible rfl
               rotate_left; · simp only [Act.put, sI, sZ, sS, i64_w, i32_w]; rfl
               refine pure_ (i := 10) (N := some 87) (v := ?_) (a' := ?_) (TF 11 46) rfl rfl (any_of HT_.out (by kernel_rfl)) (fun _ _ _ h => h) (Or.inl ⟨by rfl, ?_⟩) ?_ ?_
               rotate_left; · intro w'; go_simp; with_reducible rfl
               rotate_left; · simp only [Act.put, sI, sZ, sS, i64_w, i32_w]; rfl
               refine pure_ (i := 11) (N := some 88) (v := ?_) (a' := ?_) (TF 12 45) rfl rfl (any_of HT_.out (by kernel_rfl)) (fun _ _ _ h => h) (Or.inl ⟨by rfl, ?_⟩) ?_ ?_
               rotate_left; · intro w'; go_simp; with_reducible rfl
               rotate_left; · simp only [Act.put, sI, sZ, sS, i64_w, i32_w]; rfl
               refine pure_ (i := 12) (N := some 89) (v := ?_) (a' := ?_) (TF 13 44) rfl rfl (any_of HT_.out (by kernel_rfl)) (fun _ _ _ h => h) (Or.inl ⟨by rfl, ?_⟩) ?_ ?_
               rotate_left; · intro w'; go_simp; with_reducible rfl
               rotate_left; · simp only [Act.put, sI, sZ, sS, i64_w, i32_w]; rfl
               refine pure_ (i := 13) (N := some 90) (v := ?_) (a' := ?_) (TF 14 43) rfl rfl (any_of HT_.out (by kernel_rfl)) (fun _ _ _ h => h) (Or.inl ⟨by rfl, ?_⟩) ?_ ?_
               rotate_left; · intro w'; go_simp; with_reducible rfl
               rotate_left; · simp only [Act.put, sI, sZ, sS, i64_w, i32_w]; rfl
               refine pure_ (i := 14) (N := some 91) (v := ?_) (a' := ?_) (TF 15 42) rfl rfl (any_of HT_.out (by kernel_rfl)) (fun _ _ _ h => h) (Or.inl ⟨by rfl, ?_⟩) ?_ ?_
               rotate_left; · intro w'; go_simp; with_reducible rfl
               rotate_left; · simp only [Act.put, sI, sZ, sS, i64_w, i32_w]; rfl
               refine pure_ (i := 15) (N := some 92) (v := ?_) (a' := ?_) (TF 16 41) rfl rfl (any_of HT_.out (by kernel_rfl)) (fun _ _ _ h => h) (Or.inl ⟨by rfl, ?_⟩) ?_ ?_
               rotate_left; · intro w'; go_simp; with_reducible rfl
               rotate_left; · simp only [Act.put, sI, sZ, sS, i64_w, i32_w]; rfl
               refine pure_ (i := 17) (N := some 94) (v := ?_) (a' := ?_) #[true, true, true, true, true, true, true, true, true, true, true, true, true, true, true, true, false, true, false, false, false, false, false, false, false, false, false, false, false, false, false, false, false, false, false, false, false, false, false, false, false, false, false, false, false, false, false, false, false, false, false, false, false, false, false, false, false] rfl rfl (any_of HT_.out (by kernel_rfl)) (fun _ _ _ h => h) (Or.inl ⟨by rfl, ?_⟩) ?_ ?_
               rotate_left; · intro w'; go_simp; with_reducible rfl
               rotate_left; · simp only [Act.put, sI, sZ, sS, i64_w, i32_w]; rfl
               refine take_ (i := 16) (N := some 93) (v := ?_) (a' := ?_) (TF 18 39) rfl rfl (take_ofW HT_.out HW_.out (by kernel_rfl)) (fun _ _ _ h => h) (Or.inl ⟨by rfl, ?_⟩) hHeld ?_ ?_
               rotate_left
               ·rintro w' ⟨s0, s1, s2, s3, s4, s5, s6, s7, s8, s9, s10, s11⟩
                go_simp
                with_reducible rfl
               rotate_left
               ·simp only [Act.put, sI, sZ, sS, i64_w, i32_w]
                rfl
               refine take_ (i := 18) (N := some 95) (v := ?_) (a' := ?_) (TF 19 38) rfl rfl (take_ofW HT_.out HW_.out (by kernel_rfl)) (fun _ _ _ h => h) (Or.inl ⟨by rfl, ?_⟩) hHeld ?_ ?_
               rotate_left
               ·rintro w' ⟨s0, s1, s2, s3, s4, s5, s6, s7, s8, s9, s10, s11⟩
                go_simp
                with_reducible rfl
               rotate_left
               ·simp only [Act.put, sI, sZ, sS, i64_w, i32_w]
                rfl
               refine pure_ (i := 19) (N := some 96) (v := ?_) (a' := ?_) (TF 20 37) rfl rfl (any_of HT_.out (by kernel_rfl)) (fun _ _ _ h => h) (Or.inl ⟨by rfl, ?_⟩) ?_ ?_
               rotate_left; · intro w'; go_simp; with_reducible rfl
               rotate_left; · simp only [Act.put, sI, sZ, sS, i64_w, i32_w]; rfl
               refine pure_ (i := 20) (N := some 97) (v := ?_) (a' := ?_) (TF 21 36) rfl rfl (any_of HT_.out (by kernel_rfl)) (fun _ _ _ h => h) (Or.inl ⟨by rfl, ?_⟩) ?_ ?_
               rotate_left; · intro w'; go_simp; with_reducible rfl
               rotate_left; · simp only [Act.put, sI, sZ, sS, i64_w, i32_w]; rfl
               refine pure_ (i := 21) (N := some 98) (v := ?_) (a' := ?_) (TF 22 35) rfl rfl (any_of HT_.out (by kernel_rfl)) (fun _ _ _ h => h) (Or.inl ⟨by rfl, ?_⟩) ?_ ?_
               rotate_left; · intro w'; go_simp; with_reducible rfl
               rotate_left; · simp only [Act.put, sI, sZ, sS, i64_w, i32_w]; rfl
               refine pure_ (i := 22) (N := some 99) (v := ?_) (a' := ?_) (TF 23 34) rfl rfl (any_of HT_.out (by kernel_rfl)) (fun _ _ _ h => h) (Or.inl ⟨by rfl, ?_⟩) ?_ ?_
               rotate_left; · intro w'; go_simp; with_reducible rfl
               rotate_left; · simp only [Act.put, sI, sZ, sS, i64_w, i32_w]; rfl
               refine pure_ (i := 23) (N := some 100) (v := ?_) (a' := ?_) (TF 24 33) rfl rfl (any_of HT_.out (by kernel_rfl)) (fun _ _ _ h => h) (Or.inl ⟨by rfl, ?_⟩) ?_ ?_
               rotate_left; · intro w'; go_simp; with_reducible rfl
               rotate_left; · simp only [Act.put, sI, sZ, sS, i64_w, i32_w]; rfl
               refine pure_ (i := 24) (N := some 101) (v := ?_) (a' := ?_) (TF 25 32) rfl rfl (any_of HT_.out (by kernel_rfl)) (fun _ _ _ h => h) (Or.inl ⟨by rfl, ?_⟩) ?_ ?_
               rotate_left; · intro w'; go_simp; with_reducible rfl
               rotate_left; · simp only [Act.put, sI, sZ, sS, i64_w, i32_w]; rfl
               refine take_ (i := 25) (N := some 102) (v := ?_) (a' := ?_) (TF 26 31) rfl rfl (take_ofW HT_.out HW_.out (by kernel_rfl)) (fun _ _ _ h => h) (Or.inl ⟨by rfl, ?_⟩) hHeld ?_ ?_
               rotate_left
               ·rintro w' ⟨s0, s1, s2, s3, s4, s5, s6, s7, s8, s9, s10, s11⟩
                go_simp
                with_reducible rfl
               rotate_left
               ·simp only [Act.put, sI, sZ, sS, i64_w, i32_w]
                rfl
               refine take_ (i := 26) (N := some 103) (v := ?_) (a' := ?_) (TF 27 30) rfl rfl (take_ofW HT_.out HW_.out (by kernel_rfl)) (fun _ _ _ h => h) (Or.inl ⟨by rfl, ?_⟩) hHeld ?_ ?_
               rotate_left
               ·rintro w' ⟨s0, s1, s2, s3, s4, s5, s6, s7, s8, s9, s10, s11⟩
                go_simp
                with_reducible rfl
               rotate_left
               ·simp only [Act.put, sI, sZ, sS, i64_w, i32_w]
                rfl
               refine one_ (i := 27) (N := some 104) (TF 28 29) rfl rfl (one_of HT_.out (by kernel_rfl)) (by decide) (fun K hK => ?_)
               refine goes_ Tryd.func12 (by kernel_rfl) rfl #[.agg #[.int .u64 a1_0, .int .i64 a1_1, .int .i64 a1_2, .slice A1_3 l1_3.length c1_3]] (by rfl) rfl rfl (by (try simp only [List.map_toArray, List.map_cons, List.map_nil]); first | done | rfl | (simp only [List.length_drop, List.length_take]; rfl) | (rw [wrap_sum2 (by assumption)]; rfl)) ?_
               with_reducible refine (l6_as.calls a1_0 a1_1 a1_2 (fun k_ => k_ < w.heap.size) _ _ l1_3 t442 t443 t444 t445 _ ?side1 A52.out).mono ?_
               (case side1 => exact Kd.V_mk HC1_3.out (Kd.F_below (Kd.C_F k53_heap HR1_3.out) bA))
               rintro e w58 ⟨v446, rfl, ho0, hb⟩
               refine ⟨_, rfl, ?_⟩
               have n0_ := Ax.mk (Kd.R_below (by exact Kd.R_to HO429.out) hb)
               have n1_ := Ax.mk (Kd.R_below (by exact Kd.R_to HO438.out) hb)
               have n2_ := Ax.mk (Kd.V_lower (Kd.V_mono (ok' := fun k_ => some k_ ≠ (.slice Ao36 t427.length co36 : Value).ownBlock ∧ some k_ ≠ (.slice Ao43 t436.length co43 : Value).ownBlock ∧ k_ ≠ gb417 ∧ k_ ≠ gb418 ∧ k_ ≠ gb432 ∧ k_ ≠ gb441) ho0 (fun k_ hk_ => ⟨Or.elim hk_ (fun hs_ => fun e_ => Nat.not_le.2 hs_ (Kd.R_base HO429.out k_ e_.symm)) (fun hn_ => (Kd.fresh' (Kd.R_lt (by exact Kd.R_to HO429.out)) k_ hn_)), Or.elim hk_ (fun hs_ => fun e_ => Nat.not_le.2 hs_ (Kd.R_base HO438.out k_ e_.symm)) (fun hn_ => (Kd.fresh' (Kd.R_lt (by exact Kd.R_to HO438.out)) k_ hn_)), Or.elim hk_ (fun hs_ => fun e_ => Nat.not_le.2 hs_ (by rw [e_]; exact GW417.out)) (fun hn_ => (Kd.freshB (g := gb417) (o := .cells #[.int .u64 a0_0, .int .i64 a0_1, .int .i64 a0_2, .slice A0_3 l0_3.length c0_3] 25 (0, 0)) (bT BK417.out) k_ hn_)), Or.elim hk_ (fun hs_ => fun e_ => Nat.not_le.2 hs_ (by rw [e_]; exact GW418.out)) (fun hn_ => (Kd.freshB (g := gb418) (o := .cells #[.int .u64 a1_0, .int .i64 a1_1, .int .i64 a1_2, .slice A1_3 l1_3.length c1_3] 25 (0, 0)) (bT BK418.out) k_ hn_)), Or.elim hk_ (fun hs_ => fun e_ => Nat.not_le.2 hs_ (by rw [e_]; exact GW432.out)) (fun hn_ => (Kd.freshB (g := gb432) (o := .cells #[.int .u64 t424, .int .i64 t425, .int .i64 t426, .slice Ao36 t427.length co36] 25 (0, 0)) (bT BK432.out) k_ hn_)), Or.elim hk_ (fun hs_ => fun e_ => Nat.not_le.2 hs_ (by rw [e_]; exact GW441.out)) (fun hn_ => (Kd.freshB (g := gb441) (o := .cells #[.int .u64 t433, .int .i64 t434, .int .i64 t435, .slice Ao43 t436.length co43] 25 (0, 0)) (bT BK441.out) k_ hn_))⟩)) (bS bA))
               have n3_ := Ax.mk (bB (bT BK417.out) hb)
               have n4_ := Ax.mk (bB (bT BK418.out) hb)
               have n5_ := Ax.mk (bB (bT BK432.out) hb)
               have n6_ := Ax.mk (bB (bT BK441.out) hb)
               have n7_ := Ax.mk (bP bA hb)
               clear HO429
               clear HO438
               clear BK417
               clear BK418
               clear BK432
               clear BK441
               clear HB
               have HO429 := n0_
               have HO438 := n1_
               have HO447 := n2_
               have BK417 := n3_
               have BK418 := n4_
               have BK432 := n5_
               have BK441 := n6_
               have HB := n7_
               clear n0_ n1_ n2_ n3_ n4_ n5_ n6_ n7_
               (try clear hb)
               (try clear hb2)
               (try clear hk)
               (try clear hi)
               (try clear ho0)
               obtain ⟨Ao59, co59, eo59⟩ := Kd.V_slice HO447.out
               (first | subst eo59 | (injection eo59 with f1_ f2_ f3_; have f4_ := f1_.symm; have f5_ := f3_.symm; clear f1_ f2_ f3_; subst f4_; subst f5_))
               refine hK.out _ _ ⟨(bC BK417.out 0).trans rfl, (bC BK417.out 1).trans rfl, (bC BK417.out 2).trans rfl, (bC BK417.out 3).trans rfl, (bC BK418.out 0).trans rfl, (bC BK418.out 1).trans rfl, (bC BK418.out 2).trans rfl, (bC BK418.out 3).trans rfl, (bC BK432.out 0).trans rfl, (bC BK432.out 1).trans rfl, (bC BK432.out 2).trans rfl, (bC BK432.out 3).trans rfl⟩ (fun hHeld => ?_)
               clear hK K
               refine norm_ (a' := ?_) ?_ ?_
               rotate_left
               ·show Act.put _ (some 104) _ = _
                simp only [Act.put, sI, sZ, sS, i64_w, i32_w]
                rfl
               refine one_ (i := 28) (N := some 105) (TF 29 28) rfl rfl (one_of HT_.out (by kernel_rfl)) (by decide) (fun K hK => ?_)
               refine goes_ Tryd.func20 (by kernel_rfl) rfl #[.agg #[.int .u64 t424, .int .i64 t425, .int .i64 t426, .slice Ao36 t427.length co36], .agg #[.int .u64 t442, .int .i64 t443, .int .i64 t444, .slice Ao59 t445.length co59]] (by rfl) rfl rfl (by (try simp only [List.map_toArray, List.map_cons, List.map_nil]); first | done | rfl | (simp only [List.length_drop, List.length_take]; rfl) | (rw [wrap_sum2 (by assumption)]; rfl)) ?_
               with_reducible refine (l6_same.calls kj19 t424 t425 t426 _ _ t427 t442 t443 t444 _ _ t445 true _ ?side1 ?side2 ?side3 ?side4 A53.out).mono ?_
               (case side1 => repeat (first | exact (Kd.R_reads' HO429.out).2.2 | (with_reducible refine Kd.C_alloc ?_ _) | (with_reducible refine Kd.C_drewN ?_ _) | (with_reducible refine Kd.C_drew ?_)))
               (case side2 => exact (Kd.R_reads' HO429.out).2.1)
               (case side3 => repeat (first | exact (Kd.V_reads' HO447.out).2.2 | (with_reducible refine Kd.C_alloc ?_ _) | (with_reducible refine Kd.C_drewN ?_ _) | (with_reducible refine Kd.C_drew ?_)))
               (case side4 => exact (Kd.V_reads' HO447.out).2.1)
               rintro e w60 ⟨rfl, hb⟩
               refine ⟨_, rfl, ?_⟩
               have n0_ := Ax.mk (Kd.R_below (by exact Kd.R_to HO429.out) hb)
               have n1_ := Ax.mk (Kd.R_below (by exact Kd.R_to HO438.out) hb)
               have n2_ := Ax.mk (Kd.V_below (by exact Kd.V_to HO447.out) hb)
               have n3_ := Ax.mk (bB (bT BK417.out) hb)
               have n4_ := Ax.mk (bB (bT BK418.out) hb)
               have n5_ := Ax.mk (bB (bT BK432.out) hb)
               have n6_ := Ax.mk (bB (bT BK441.out) hb)
               have n7_ := Ax.mk (bP bA hb)
               clear HO429
               clear HO438
               clear HO447
               clear BK417
               clear BK418
               clear BK432
               clear BK441
               clear HB
               have HO429 := n0_
               have HO438 := n1_
               have HO447 := n2_
               have BK417 := n3_
               have BK418 := n4_
               have BK432 := n5_
               have BK441 := n6_
               have HB := n7_
               clear n0_ n1_ n2_ n3_ n4_ n5_ n6_ n7_
               (try clear hb)
               (try clear hb2)
               (try clear hk)
               (try clear hi)
               refine hK.out _ _ ⟨(bC BK417.out 0).trans rfl, (bC BK417.out 1).trans rfl, (bC BK417.out 2).trans rfl, (bC BK417.out 3).trans rfl, (bC BK418.out 0).trans rfl, (bC BK418.out 1).trans rfl, (bC BK418.out 2).trans rfl, (bC BK418.out 3).trans rfl, (bC BK432.out 0).trans rfl, (bC BK432.out 1).trans rfl, (bC BK432.out 2).trans rfl, (bC BK432.out 3).trans rfl⟩ (fun hHeld => ?_)
               clear hK K
               refine norm_ (a' := ?_) ?_ ?_
               rotate_left
               ·show Act.put _ (some 105) _ = _
                simp only [Act.put, sI, sZ, sS, i64_w, i32_w]
                rfl
               refine pure_ (i := 29) (N := some 106) (v := ?_) (a' := ?_) (TF 30 27) rfl rfl (any_of HT_.out (by kernel_rfl)) (fun _ _ _ h => h) (Or.inl ⟨by rfl, ?_⟩) ?_ ?_
               rotate_left; · intro w'; go_simp; with_reducible rfl
               rotate_left; · simp only [Act.put, sI, sZ, sS, i64_w, i32_w]; rfl
               refine pure_ (i := 30) (N := some 107) (v := ?_) (a' := ?_) (TF 31 26) rfl rfl (any_of HT_.out (by kernel_rfl)) (fun _ _ _ h => h) (Or.inl ⟨by rfl, ?_⟩) ?_ ?_
               rotate_left; · intro w'; go_simp; with_reducible rfl
               rotate_left; · simp only [Act.put, sI, sZ, sS, i64_w, i32_w]; rfl
               refine pure_ (i := 31) (N := some 108) (v := ?_) (a' := ?_) (TF 32 25) rfl rfl (any_of HT_.out (by kernel_rfl)) (fun _ _ _ h => h) (Or.inl ⟨by rfl, ?_⟩) ?_ ?_
               rotate_left; · intro w'; go_simp; with_reducible rfl
               rotate_left; · simp only [Act.put, sI, sZ, sS, i64_w, i32_w]; rfl
               refine pure_ (i := 32) (N := some 109) (v := ?_) (a' := ?_) (TF 33 24) rfl rfl (any_of HT_.out (by kernel_rfl)) (fun _ _ _ h => h) (Or.inl ⟨by rfl, ?_⟩) ?_ ?_
               rotate_left; · intro w'; go_simp; with_reducible rfl
               rotate_left; · simp only [Act.put, sI, sZ, sS, i64_w, i32_w]; rfl
               refine pure_ (i := 33) (N := some 110) (v := ?_) (a' := ?_) (TF 34 23) rfl rfl (any_of HT_.out (by kernel_rfl)) (fun _ _ _ h => h) (Or.inl ⟨by rfl, ?_⟩) ?_ ?_
               rotate_left; · intro w'; go_simp; with_reducible rfl
               rotate_left; · simp only [Act.put, sI, sZ, sS, i64_w, i32_w]; rfl
               refine pure_ (i := 34) (N := some 111) (v := ?_) (a' := ?_) (TF 35 22) rfl rfl (any_of HT_.out (by kernel_rfl)) (fun _ _ _ h => h) (Or.inl ⟨by rfl, ?_⟩) ?_ ?_
               rotate_left; · intro w'; go_simp; with_reducible rfl
               rotate_left; · simp only [Act.put, sI, sZ, sS, i64_w, i32_w]; rfl
               refine pure_ (i := 35) (N := some 112) (v := ?_) (a' := ?_) (TF 36 21) rfl rfl (any_of HT_.out (by kernel_rfl)) (fun _ _ _ h => h) (Or.inl ⟨by rfl, ?_⟩) ?_ ?_
               rotate_left; · intro w'; go_simp; with_reducible rfl
               rotate_left; · simp only [Act.put, sI, sZ, sS, i64_w, i32_w]; rfl
               refine pure_ (i := 36) (N := some 113) (v := undef) (a' := ?_) (TF 37 20) rfl rfl (any_of HT_.out (by kernel_rfl)) (fun _ _ _ h => h) (Or.inr ⟨by rfl, rfl⟩) ?_ ?_
               rotate_left
               ·simp only [Act.put, sI, sZ, sS, i64_w, i32_w]
                rfl
               refine pure_ (i := 37) (N := some 114) (v := undef) (a' := ?_) (TF 38 19) rfl rfl (any_of HT_.out (by kernel_rfl)) (fun _ _ _ h => h) (Or.inr ⟨by rfl, rfl⟩) ?_ ?_
               rotate_left
               ·simp only [Act.put, sI, sZ, sS, i64_w, i32_w]
                rfl
               refine pure_ (i := 38) (N := some 115) (v := undef) (a' := ?_) (TF 39 18) rfl rfl (any_of HT_.out (by kernel_rfl)) (fun _ _ _ h => h) (Or.inr ⟨by rfl, rfl⟩) ?_ ?_
               rotate_left
               ·simp only [Act.put, sI, sZ, sS, i64_w, i32_w]
                rfl
               refine pure_ (i := 39) (N := some 116) (v := undef) (a' := ?_) (TF 40 17) rfl rfl (any_of HT_.out (by kernel_rfl)) (fun _ _ _ h => h) (Or.inr ⟨by rfl, rfl⟩) ?_ ?_
               rotate_left
               ·simp only [Act.put, sI, sZ, sS, i64_w, i32_w]
                rfl
               refine pure_ (i := 40) (N := some 117) (v := undef) (a' := ?_) (TF 41 16) rfl rfl (any_of HT_.out (by kernel_rfl)) (fun _ _ _ h => h) (Or.inr ⟨by rfl, rfl⟩) ?_ ?_
               rotate_left
               ·simp only [Act.put, sI, sZ, sS, i64_w, i32_w]
                rfl
               refine pure_ (i := 41) (N := some 118) (v := ?_) (a' := ?_) (TF 42 15) rfl rfl (any_of HT_.out (by kernel_rfl)) (fun _ _ _ h => h) (Or.inl ⟨by rfl, ?_⟩) ?_ ?_
               rotate_left; · intro w'; go_simp; with_reducible rfl
               rotate_left; · simp only [Act.put, sI, sZ, sS, i64_w, i32_w]; rfl
               refine pure_ (i := 42) (N := some 119) (v := ?_) (a' := ?_) (TF 43 14) rfl rfl (any_of HT_.out (by kernel_rfl)) (fun _ _ _ h => h) (Or.inl ⟨by rfl, ?_⟩) ?_ ?_
               rotate_left; · intro w'; go_simp; with_reducible rfl
               rotate_left; · simp only [Act.put, sI, sZ, sS, i64_w, i32_w]; rfl
               refine pure_ (i := 43) (N := some 120) (v := ?_) (a' := ?_) (TF 44 13) rfl rfl (any_of HT_.out (by kernel_rfl)) (fun _ _ _ h => h) (Or.inl ⟨by rfl, ?_⟩) ?_ ?_
               rotate_left; · intro w'; go_simp; with_reducible rfl
               rotate_left; · simp only [Act.put, sI, sZ, sS, i64_w, i32_w]; rfl
               refine pure_ (i := 44) (N := some 121) (v := ?_) (a' := ?_) (TF 45 12) rfl rfl (any_of HT_.out (by kernel_rfl)) (fun _ _ _ h => h) (Or.inl ⟨by rfl, ?_⟩) ?_ ?_
               rotate_left; · intro w'; go_simp; with_reducible rfl
               rotate_left; · simp only [Act.put, sI, sZ, sS, i64_w, i32_w]; rfl
               refine pure_ (i := 46) (N := some 123) (v := ?_) (a' := ?_) #[true, true, true, true, true, true, true, true, true, true, true, true, true, true, true, true, true, true, true, true, true, true, true, true, true, true, true, true, true, true, true, true, true, true, true, true, true, true, true, true, true, true, true, true, true, false, true, false, false, false, false, false, false, false, false, false, false] rfl rfl (any_of HT_.out (by kernel_rfl)) (fun _ _ _ h => h) (Or.inl ⟨by rfl, ?_⟩) ?_ ?_
               rotate_left; · intro w'; go_simp; with_reducible rfl
               rotate_left; · simp only [Act.put, sI, sZ, sS, i64_w, i32_w]; rfl
               refine take_ (i := 45) (N := some 122) (v := ?_) (a' := ?_) (TF 47 10) rfl rfl (take_ofW HT_.out HW_.out (by kernel_rfl)) (fun _ _ _ h => h) (Or.inl ⟨by rfl, ?_⟩) hHeld ?_ ?_
               rotate_left
               ·rintro w' ⟨s0, s1, s2, s3, s4, s5, s6, s7, s8, s9, s10, s11⟩
                go_simp
                with_reducible rfl
               rotate_left
               ·simp only [Act.put, sI, sZ, sS, i64_w, i32_w]
                rfl
               refine take_ (i := 47) (N := some 124) (v := ?_) (a' := ?_) (TF 48 9) rfl rfl (take_ofW HT_.out HW_.out (by kernel_rfl)) (fun _ _ _ h => h) (Or.inl ⟨by rfl, ?_⟩) hHeld ?_ ?_
               rotate_left
               ·rintro w' ⟨s0, s1, s2, s3, s4, s5, s6, s7, s8, s9, s10, s11⟩
                go_simp
                with_reducible rfl
               rotate_left
               ·simp only [Act.put, sI, sZ, sS, i64_w, i32_w]
                rfl
               refine pure_ (i := 48) (N := some 125) (v := ?_) (a' := ?_) (TF 49 8) rfl rfl (any_of HT_.out (by kernel_rfl)) (fun _ _ _ h => h) (Or.inl ⟨by rfl, ?_⟩) ?_ ?_
               rotate_left; · intro w'; go_simp; with_reducible rfl
               rotate_left; · simp only [Act.put, sI, sZ, sS, i64_w, i32_w]; rfl
               refine pure_ (i := 49) (N := some 126) (v := ?_) (a' := ?_) (TF 50 7) rfl rfl (any_of HT_.out (by kernel_rfl)) (fun _ _ _ h => h) (Or.inl ⟨by rfl, ?_⟩) ?_ ?_
               rotate_left; · intro w'; go_simp; with_reducible rfl
               rotate_left; · simp only [Act.put, sI, sZ, sS, i64_w, i32_w]; rfl
               refine pure_ (i := 50) (N := some 127) (v := undef) (a' := ?_) (TF 51 6) rfl rfl (any_of HT_.out (by kernel_rfl)) (fun _ _ _ h => h) (Or.inr ⟨by rfl, rfl⟩) ?_ ?_
               rotate_left
               ·simp only [Act.put, sI, sZ, sS, i64_w, i32_w]
                rfl
               refine pure_ (i := 51) (N := some 128) (v := undef) (a' := ?_) (TF 52 5) rfl rfl (any_of HT_.out (by kernel_rfl)) (fun _ _ _ h => h) (Or.inr ⟨by rfl, rfl⟩) ?_ ?_
               rotate_left
               ·simp only [Act.put, sI, sZ, sS, i64_w, i32_w]
                rfl
               refine pure_ (i := 52) (N := some 129) (v := undef) (a' := ?_) (TF 53 4) rfl rfl (any_of HT_.out (by kernel_rfl)) (fun _ _ _ h => h) (Or.inr ⟨by rfl, rfl⟩) ?_ ?_
               rotate_left
               ·simp only [Act.put, sI, sZ, sS, i64_w, i32_w]
                rfl
               refine pure_ (i := 53) (N := some 130) (v := undef) (a' := ?_) (TF 54 3) rfl rfl (any_of HT_.out (by kernel_rfl)) (fun _ _ _ h => h) (Or.inr ⟨by rfl, rfl⟩) ?_ ?_
               rotate_left
               ·simp only [Act.put, sI, sZ, sS, i64_w, i32_w]
                rfl
               refine pure_ (i := 54) (N := some 131) (v := undef) (a' := ?_) (TF 55 2) rfl rfl (any_of HT_.out (by kernel_rfl)) (fun _ _ _ h => h) (Or.inr ⟨by rfl, rfl⟩) ?_ ?_
               rotate_left
               ·simp only [Act.put, sI, sZ, sS, i64_w, i32_w]
                rfl
               refine pure_ (i := 55) (N := some 132) (v := ?_) (a' := ?_) (TF 56 1) rfl rfl (any_of HT_.out (by kernel_rfl)) (fun _ _ _ h => h) (Or.inl ⟨by rfl, ?_⟩) ?_ ?_
               rotate_left; · intro w'; go_simp; with_reducible rfl
               rotate_left; · simp only [Act.put, sI, sZ, sS, i64_w, i32_w]; rfl
               refine pure_ (i := 56) (N := some 133) (v := ?_) (a' := ?_) (TF 57 0) rfl rfl (any_of HT_.out (by kernel_rfl)) (fun _ _ _ h => h) (Or.inl ⟨by rfl, ?_⟩) ?_ ?_
               rotate_left; · intro w'; go_simp; with_reducible rfl
               rotate_left; · simp only [Act.put, sI, sZ, sS, i64_w, i32_w]; rfl
               refine done_ (done_of HT_.out (by kernel_rfl)) ?_
               try go_wp2
               go_meet
               case rel => exact ⟨_, (false), (by first | rfl | (simp; done) | (simp [*]; done)), H', ⟨by have := HJ5.out; have := HJ19.out; first | omega | exact Nat.le_refl _⟩, ⟨by apply Kd.R_to; exact HO429.out⟩, ⟨by apply Kd.R_to; exact HO438.out⟩, ⟨by refine bT ?_; exact BK417.out⟩, ⟨by refine bT ?_; exact BK418.out⟩, ⟨by refine bT ?_; exact BK432.out⟩, ⟨by refine bT ?_; exact BK441.out⟩, ⟨bA⟩⟩
              ·rw [if_neg c55] at H
               have c55b0 : (a0_0 == a1_0) = false := beq_eq_false_iff_ne.mpr c55
               have c55b1 : (a0_0 != a1_0) = true := bne_iff_ne.mpr c55
               replace H := Option.bind_eq_some_iff.mp H
               obtain ⟨⟨t449, t450, t451, t452⟩, A610, H⟩ := H
               replace H : ((l6_same.f kj19 t433 t434 t435 t436 t449 t450 t451 t452).bind fun t455 => (l6_HeadEither.j2 kj19 a2 a3 t420 t422 (!t455) a0_0 a0_1 a0_2 l0_3)) = some r := H
               have A61 := Ax.mk A610
               clear A610
               replace H := Option.bind_eq_some_iff.mp H
               obtain ⟨t455, A620, H⟩ := H
               replace H : (l6_HeadEither.j2 kj19 a2 a3 t420 t422 (!t455) a0_0 a0_1 a0_2 l0_3) = some r := H
               have A62 := Ax.mk A620
               clear A620
               have H' := Ax.mk H
               clear H
               try go_wp2
               have n0_ : Ax (Kd.R k53 53 ((((w38.setCell ⟨gb441, 0, none⟩ (.int .u64 t433)).setCell ⟨gb441, 1, none⟩ (.int .i64 t434)).setCell ⟨gb441, 2, none⟩ (.int .i64 t435)).setCell ⟨gb441, 3, none⟩ (.slice Ao43 t436.length co43)) w.heap.size (fun k_ => some k_ ≠ (.slice Ao43 t436.length co43 : Value).ownBlock) (.slice Ao36 t427.length co36) t427) := ⟨by apply Kd.R_to; exact Kd.R_mono (Kd.R_far (p := ⟨gb441, 3, none⟩) (Kd.R_far (p := ⟨gb441, 2, none⟩) (Kd.R_far (p := ⟨gb441, 1, none⟩) (Kd.R_far (p := ⟨gb441, 0, none⟩) (Kd.R_types HO429.out BK441.out (by decide)) (fun _ hk => hk.2) (.int .u64 t433)) (fun _ hk => hk.2) (.int .i64 t434)) (fun _ hk => hk.2) (.int .i64 t435)) (fun _ hk => hk.2) (.slice Ao43 t436.length co43)) (fun _ hk => hk.1.2)⟩
               have n1_ : Ax (Kd.R k53 53 ((((w38.setCell ⟨gb441, 0, none⟩ (.int .u64 t433)).setCell ⟨gb441, 1, none⟩ (.int .i64 t434)).setCell ⟨gb441, 2, none⟩ (.int .i64 t435)).setCell ⟨gb441, 3, none⟩ (.slice Ao43 t436.length co43)) w.heap.size (fun k_ => some k_ ≠ (.slice Ao36 t427.length co36 : Value).ownBlock) (.slice Ao43 t436.length co43) t436) := ⟨by apply Kd.R_to; exact Kd.R_mono (Kd.R_far (p := ⟨gb441, 3, none⟩) (Kd.R_far (p := ⟨gb441, 2, none⟩) (Kd.R_far (p := ⟨gb441, 1, none⟩) (Kd.R_far (p := ⟨gb441, 0, none⟩) (Kd.R_types HO438.out BK441.out (by decide)) (fun _ hk => hk.2) (.int .u64 t433)) (fun _ hk => hk.2) (.int .i64 t434)) (fun _ hk => hk.2) (.int .i64 t435)) (fun _ hk => hk.2) (.slice Ao43 t436.length co43)) (fun _ hk => hk.1.2)⟩
               have n2_ : Ax (((((w38.setCell ⟨gb441, 0, none⟩ (.int .u64 t433)).setCell ⟨gb441, 1, none⟩ (.int .i64 t434)).setCell ⟨gb441, 2, none⟩ (.int .i64 t435)).setCell ⟨gb441, 3, none⟩ (.slice Ao43 t436.length co43)).heap[gb417]? = some (.cells #[.int .u64 a0_0, .int .i64 a0_1, .int .i64 a0_2, .slice A0_3 l0_3.length c0_3] 25 (0, 0))) := ⟨by refine bT ?_; refine bR ?_ NB417_441.out _; refine bT ?_; refine bR ?_ NB417_441.out _; refine bT ?_; refine bR ?_ NB417_441.out _; refine bT ?_; refine bR ?_ NB417_441.out _; refine bT ?_; exact BK417.out⟩
               have n3_ : Ax (((((w38.setCell ⟨gb441, 0, none⟩ (.int .u64 t433)).setCell ⟨gb441, 1, none⟩ (.int .i64 t434)).setCell ⟨gb441, 2, none⟩ (.int .i64 t435)).setCell ⟨gb441, 3, none⟩ (.slice Ao43 t436.length co43)).heap[gb418]? = some (.cells #[.int .u64 a1_0, .int .i64 a1_1, .int .i64 a1_2, .slice A1_3 l1_3.length c1_3] 25 (0, 0))) := ⟨by refine bT ?_; refine bR ?_ NB418_441.out _; refine bT ?_; refine bR ?_ NB418_441.out _; refine bT ?_; refine bR ?_ NB418_441.out _; refine bT ?_; refine bR ?_ NB418_441.out _; refine bT ?_; exact BK418.out⟩
               have n4_ : Ax (((((w38.setCell ⟨gb441, 0, none⟩ (.int .u64 t433)).setCell ⟨gb441, 1, none⟩ (.int .i64 t434)).setCell ⟨gb441, 2, none⟩ (.int .i64 t435)).setCell ⟨gb441, 3, none⟩ (.slice Ao43 t436.length co43)).heap[gb432]? = some (.cells #[.int .u64 t424, .int .i64 t425, .int .i64 t426, .slice Ao36 t427.length co36] 25 (0, 0))) := ⟨by refine bT ?_; refine bR ?_ NB432_441.out _; refine bT ?_; refine bR ?_ NB432_441.out _; refine bT ?_; refine bR ?_ NB432_441.out _; refine bT ?_; refine bR ?_ NB432_441.out _; refine bT ?_; exact BK432.out⟩
               have n5_ : Ax (((((w38.setCell ⟨gb441, 0, none⟩ (.int .u64 t433)).setCell ⟨gb441, 1, none⟩ (.int .i64 t434)).setCell ⟨gb441, 2, none⟩ (.int .i64 t435)).setCell ⟨gb441, 3, none⟩ (.slice Ao43 t436.length co43)).heap[gb441]? = some (.cells #[.int .u64 t433, .int .i64 t434, .int .i64 t435, .slice Ao43 t436.length co43] 25 (0, 0))) := ⟨by refine bT ?_; refine bU (cs := #[.int .u64 t433, .int .i64 t434, .int .i64 t435, .slice none 0 0]) ?_ 3 _ rfl; refine bT ?_; refine bU (cs := #[.int .u64 t433, .int .i64 t434, .int .i64 0, .slice none 0 0]) ?_ 2 _ rfl; refine bT ?_; refine bU (cs := #[.int .u64 t433, .int .i64 0, .int .i64 0, .slice none 0 0]) ?_ 1 _ rfl; refine bT ?_; refine bU (cs := #[.int .u64 0, .int .i64 0, .int .i64 0, .slice none 0 0]) ?_ 0 _ rfl; refine bT ?_; exact BK441.out⟩
               have n6_ : Ax (Below w.heap.size w ((((w38.setCell ⟨gb441, 0, none⟩ (.int .u64 t433)).setCell ⟨gb441, 1, none⟩ (.int .i64 t434)).setCell ⟨gb441, 2, none⟩ (.int .i64 t435)).setCell ⟨gb441, 3, none⟩ (.slice Ao43 t436.length co43))) := ⟨bA⟩
               (try clear HO429)
               (try clear HO438)
               (try clear BK417)
               (try clear BK418)
               (try clear BK432)
               (try clear BK441)
               (try clear HB)
               generalize ((((w38.setCell ⟨gb441, 0, none⟩ (.int .u64 t433)).setCell ⟨gb441, 1, none⟩ (.int .i64 t434)).setCell ⟨gb441, 2, none⟩ (.int .i64 t435)).setCell ⟨gb441, 3, none⟩ (.slice Ao43 t436.length co43)) = w63 at n0_ n1_ n2_ n3_ n4_ n5_ n6_ ⊢
               have HO429 := n0_
               have HO438 := n1_
               have BK417 := n2_
               have BK418 := n3_
               have BK432 := n4_
               have BK441 := n5_
               have HB := n6_
               clear n0_ n1_ n2_ n3_ n4_ n5_ n6_
               have n0_ := Ax.mk (Kd.R_drew HO429.out)
               have n1_ := Ax.mk (Kd.R_drew HO438.out)
               have n2_ := Ax.mk (blk_drew BK417.out)
               have n3_ := Ax.mk (blk_drew BK418.out)
               have n4_ := Ax.mk (blk_drew BK432.out)
               have n5_ := Ax.mk (blk_drew BK441.out)
               have n6_ := Ax.mk (below_drew1 HB.out)
               clear HO429
               clear HO438
               clear BK417
               clear BK418
               clear BK432
               clear BK441
               clear HB
               have HO429 := n0_
               have HO438 := n1_
               have BK417 := n2_
               have BK418 := n3_
               have BK432 := n4_
               have BK441 := n5_
               have HB := n6_
               clear n0_ n1_ n2_ n3_ n4_ n5_ n6_
               as_aux_lemma =>
               refine start_ (n := 57) (S := fun w' => w'.cell? ⟨gb417, 0, none⟩ = some (.int .u64 a0_0) ∧ w'.cell? ⟨gb417, 1, none⟩ = some (.int .i64 a0_1) ∧ w'.cell? ⟨gb417, 2, none⟩ = some (.int .i64 a0_2) ∧ w'.cell? ⟨gb417, 3, none⟩ = some (.slice A0_3 l0_3.length c0_3) ∧ w'.cell? ⟨gb418, 0, none⟩ = some (.int .u64 a1_0) ∧ w'.cell? ⟨gb418, 1, none⟩ = some (.int .i64 a1_1) ∧ w'.cell? ⟨gb418, 2, none⟩ = some (.int .i64 a1_2) ∧ w'.cell? ⟨gb418, 3, none⟩ = some (.slice A1_3 l1_3.length c1_3) ∧ w'.cell? ⟨gb432, 0, none⟩ = some (.int .u64 t424) ∧ w'.cell? ⟨gb432, 1, none⟩ = some (.int .i64 t425) ∧ w'.cell? ⟨gb432, 2, none⟩ = some (.int .i64 t426) ∧ w'.cell? ⟨gb432, 3, none⟩ = some (.slice Ao36 t427.length co36) ∧ w'.cell? ⟨gb441, 0, none⟩ = some (.int .u64 t433) ∧ w'.cell? ⟨gb441, 1, none⟩ = some (.int .i64 t434) ∧ w'.cell? ⟨gb441, 2, none⟩ = some (.int .i64 t435) ∧ w'.cell? ⟨gb441, 3, none⟩ = some (.slice Ao43 t436.length co43)) (ds := []) (TF 0 57) (by kernel_rfl) rfl rfl ⟨(bC BK417.out 0).trans rfl, (bC BK417.out 1).trans rfl, (bC BK417.out 2).trans rfl, (bC BK417.out 3).trans rfl, (bC BK418.out 0).trans rfl, (bC BK418.out 1).trans rfl, (bC BK418.out 2).trans rfl, (bC BK418.out 3).trans rfl, (bC BK432.out 0).trans rfl, (bC BK432.out 1).trans rfl, (bC BK432.out 2).trans rfl, (bC BK432.out 3).trans rfl, (bC BK441.out 0).trans rfl, (bC BK441.out 1).trans rfl, (bC BK441.out 2).trans rfl, (bC BK441.out 3).trans rfl⟩ (fun hHeld => ?_); refine with_tabW l6_HeadEither.tab11 l6_HeadEither.bits11 (fun HT_ HW_ => ?_)
               generalize w63.drew = w64 at HO429 HO438 BK417 BK418 BK432 BK441 HB hHeld ⊢
               refine pure_ (i := 0) (N := some 77) (v := ?_) (a' := ?_) (TF 1 56) rfl rfl (any_of HT_.out (by kernel_rfl)) (fun _ _ _ h => h) (Or.inl ⟨by rfl, ?_⟩) ?_ ?_
               rotate_left; · intro w'; go_simp; with_reducible rfl
               rotate_left; · simp only [Act.put, sI, sZ, sS, i64_w, i32_w]; rfl
               refine pure_ (i := 1) (N := some 78) (v := ?_) (a' := ?_) (TF 2 55) rfl rfl (any_of HT_.out (by kernel_rfl)) (fun _ _ _ h => h) (Or.inl ⟨by rfl, ?_⟩) ?_ ?_
               rotate_left; · intro w'; go_simp; with_reducible rfl
               rotate_left; · simp only [Act.put, sI, sZ, sS, i64_w, i32_w]; rfl
               refine pure_ (i := 2) (N := some 79) (v := ?_) (a' := ?_) (TF 3 54) rfl rfl (any_of HT_.out (by kernel_rfl)) (fun _ _ _ h => h) (Or.inl ⟨by rfl, ?_⟩) ?_ ?_
               rotate_left; · intro w'; go_simp; with_reducible rfl
               rotate_left; · simp only [Act.put, sI, sZ, sS, i64_w, i32_w]; rfl
               refine pure_ (i := 3) (N := some 80) (v := ?_) (a' := ?_) (TF 4 53) rfl rfl (any_of HT_.out (by kernel_rfl)) (fun _ _ _ h => h) (Or.inl ⟨by rfl, ?_⟩) ?_ ?_
               rotate_left; · intro w'; go_simp; with_reducible rfl
               rotate_left; · simp only [Act.put, sI, sZ, sS, i64_w, i32_w]; rfl
               refine pure_ (i := 4) (N := some 81) (v := ?_) (a' := ?_) (TF 5 52) rfl rfl (any_of HT_.out (by kernel_rfl)) (fun _ _ _ h => h) (Or.inl ⟨by rfl, ?_⟩) ?_ ?_
               rotate_left; · intro w'; go_simp; with_reducible rfl
               rotate_left; · simp only [Act.put, sI, sZ, sS, i64_w, i32_w]; rfl
               refine pure_ (i := 5) (N := some 82) (v := ?_) (a' := ?_) (TF 6 51) rfl rfl (any_of HT_.out (by kernel_rfl)) (fun _ _ _ h => h) (Or.inl ⟨by rfl, ?_⟩) ?_ ?_
               rotate_left; · intro w'; go_simp; with_reducible rfl
               rotate_left; · simp only [Act.put, sI, sZ, sS, i64_w, i32_w]; rfl
               refine pure_ (i := 6) (N := some 83) (v := ?_) (a' := ?_) (TF 7 50) rfl rfl (any_of HT_.out (by kernel_rfl)) (fun _ _ _ h => h) (Or.inl ⟨by rfl, ?_⟩) ?_ ?_
               rotate_left; · intro w'; go_simp; with_reducible rfl
               rotate_left; · simp only [Act.put, sI, sZ, sS, i64_w, i32_w]; rfl
               refine pure_ (i := 7) (N := some 84) (v := ?_) (a' := ?_) (TF 8 49) rfl rfl (any_of HT_.out (by kernel_rfl)) (fun _ _ _ h => h) (Or.inl ⟨by rfl, ?_⟩) ?_ ?_
               rotate_left; · intro w'; go_simp; with_reducible rfl
               rotate_left; · simp only [Act.put, sI, sZ, sS, i64_w, i32_w]; rfl
               refine pure_ (i := 8) (N := some 85) (v := ?_) (a' := ?_) (TF 9 48) rfl rfl (any_of HT_.out (by kernel_rfl)) (fun _ _ _ h => h) (Or.inl ⟨by rfl, ?_⟩) ?_ ?_
               rotate_left; · intro w'; go_simp; with_reducible rfl
               rotate_left; · simp only [Act.put, sI, sZ, sS, i64_w, i32_w]; rfl
               refine pure_ (i := 9) (N := some 86) (v := ?_) (a' := ?_) (TF 10 47) rfl rfl (any_of HT_.out (by kernel_rfl)) (fun _ _ _ h => h) (Or.inl ⟨by rfl, ?_⟩) ?_ ?_
               rotate_left; · intro w'; go_simp; with_reducible rfl
               rotate_left; · simp only [Act.put, sI, sZ, sS, i64_w, i32_w]; rfl
               refine pure_ (i := 10) (N := some 87) (v := ?_) (a' := ?_) (TF 11 46) rfl rfl (any_of HT_.out (by kernel_rfl)) (fun _ _ _ h => h) (Or.inl ⟨by rfl, ?_⟩) ?_ ?_
               rotate_left; · intro w'; go_simp; with_reducible rfl
               rotate_left; · simp only [Act.put, sI, sZ, sS, i64_w, i32_w]; rfl
               refine pure_ (i := 11) (N := some 88) (v := ?_) (a' := ?_) (TF 12 45) rfl rfl (any_of HT_.out (by kernel_rfl)) (fun _ _ _ h => h) (Or.inl ⟨by rfl, ?_⟩) ?_ ?_
               rotate_left; · intro w'; go_simp; with_reducible rfl
               rotate_left; · simp only [Act.put, sI, sZ, sS, i64_w, i32_w]; rfl
               refine pure_ (i := 12) (N := some 89) (v := ?_) (a' := ?_) (TF 13 44) rfl rfl (any_of HT_.out (by kernel_rfl)) (fun _ _ _ h => h) (Or.inl ⟨by rfl, ?_⟩) ?_ ?_
               rotate_left; · intro w'; go_simp; with_reducible rfl
               rotate_left; · simp only [Act.put, sI, sZ, sS, i64_w, i32_w]; rfl
               refine pure_ (i := 13) (N := some 90) (v := ?_) (a' := ?_) (TF 14 43) rfl rfl (any_of HT_.out (by kernel_rfl)) (fun _ _ _ h => h) (Or.inl ⟨by rfl, ?_⟩) ?_ ?_
               rotate_left; · intro w'; go_simp; with_reducible rfl
               rotate_left; · simp only [Act.put, sI, sZ, sS, i64_w, i32_w]; rfl
               refine pure_ (i := 14) (N := some 91) (v := ?_) (a' := ?_) (TF 15 42) rfl rfl (any_of HT_.out (by kernel_rfl)) (fun _ _ _ h => h) (Or.inl ⟨by rfl, ?_⟩) ?_ ?_
               rotate_left; · intro w'; go_simp; with_reducible rfl
               rotate_left; · simp only [Act.put, sI, sZ, sS, i64_w, i32_w]; rfl
               refine pure_ (i := 15) (N := some 92) (v := ?_) (a' := ?_) (TF 16 41) rfl rfl (any_of HT_.out (by kernel_rfl)) (fun _ _ _ h => h) (Or.inl ⟨by rfl, ?_⟩) ?_ ?_
               rotate_left; · intro w'; go_simp; with_reducible rfl
               rotate_left; · simp only [Act.put, sI, sZ, sS, i64_w, i32_w]; rfl
               refine pure_ (i := 17) (N := some 94) (v := ?_) (a' := ?_) #[true, true, true, true, true, true, true, true, true, true, true, true, true, true, true, true, false, true, false, false, false, false, false, false, false, false, false, false, false, false, false, false, false, false, false, false, false, false, false, false, false, false, false, false, false, false, false, false, false, false, false, false, false, false, false, false, false] rfl rfl (any_of HT_.out (by kernel_rfl)) (fun _ _ _ h => h) (Or.inl ⟨by rfl, ?_⟩) ?_ ?_
               rotate_left; · intro w'; go_simp; with_reducible rfl
               rotate_left; · simp only [Act.put, sI, sZ, sS, i64_w, i32_w]; rfl
               refine take_ (i := 16) (N := some 93) (v := ?_) (a' := ?_) (TF 18 39) rfl rfl (take_ofW HT_.out HW_.out (by kernel_rfl)) (fun _ _ _ h => h) (Or.inl ⟨by rfl, ?_⟩) hHeld ?_ ?_
               rotate_left
               ·rintro w' ⟨s0, s1, s2, s3, s4, s5, s6, s7, s8, s9, s10, s11, s12, s13, s14, s15⟩
                go_simp
                with_reducible rfl
               rotate_left
               ·simp only [Act.put, sI, sZ, sS, i64_w, i32_w]
                rfl
               refine take_ (i := 18) (N := some 95) (v := ?_) (a' := ?_) (TF 19 38) rfl rfl (take_ofW HT_.out HW_.out (by kernel_rfl)) (fun _ _ _ h => h) (Or.inl ⟨by rfl, ?_⟩) hHeld ?_ ?_
               rotate_left
               ·rintro w' ⟨s0, s1, s2, s3, s4, s5, s6, s7, s8, s9, s10, s11, s12, s13, s14, s15⟩
                go_simp
                with_reducible rfl
               rotate_left
               ·simp only [Act.put, sI, sZ, sS, i64_w, i32_w]
                rfl
               refine pure_ (i := 19) (N := some 96) (v := ?_) (a' := ?_) (TF 20 37) rfl rfl (any_of HT_.out (by kernel_rfl)) (fun _ _ _ h => h) (Or.inl ⟨by rfl, ?_⟩) ?_ ?_
               rotate_left; · intro w'; go_simp; with_reducible rfl
               rotate_left; · simp only [Act.put, sI, sZ, sS, i64_w, i32_w]; rfl
               refine pure_ (i := 20) (N := some 97) (v := ?_) (a' := ?_) (TF 21 36) rfl rfl (any_of HT_.out (by kernel_rfl)) (fun _ _ _ h => h) (Or.inl ⟨by rfl, ?_⟩) ?_ ?_
               rotate_left; · intro w'; go_simp; with_reducible rfl
               rotate_left; · simp only [Act.put, sI, sZ, sS, i64_w, i32_w]; rfl
               refine pure_ (i := 21) (N := some 98) (v := ?_) (a' := ?_) (TF 22 35) rfl rfl (any_of HT_.out (by kernel_rfl)) (fun _ _ _ h => h) (Or.inl ⟨by rfl, ?_⟩) ?_ ?_
               rotate_left; · intro w'; go_simp; with_reducible rfl
               rotate_left; · simp only [Act.put, sI, sZ, sS, i64_w, i32_w]; rfl
               refine pure_ (i := 22) (N := some 99) (v := ?_) (a' := ?_) (TF 23 34) rfl rfl (any_of HT_.out (by kernel_rfl)) (fun _ _ _ h => h) (Or.inl ⟨by rfl, ?_⟩) ?_ ?_
               rotate_left; · intro w'; go_simp; with_reducible rfl
               rotate_left; · simp only [Act.put, sI, sZ, sS, i64_w, i32_w]; rfl
               refine pure_ (i := 23) (N := some 100) (v := ?_) (a' := ?_) (TF 24 33) rfl rfl (any_of HT_.out (by kernel_rfl)) (fun _ _ _ h => h) (Or.inl ⟨by rfl, ?_⟩) ?_ ?_
               rotate_left; · intro w'; go_simp; with_reducible rfl
               rotate_left; · simp only [Act.put, sI, sZ, sS, i64_w, i32_w]; rfl
               refine pure_ (i := 24) (N := some 101) (v := ?_) (a' := ?_) (TF 25 32) rfl rfl (any_of HT_.out (by kernel_rfl)) (fun _ _ _ h => h) (Or.inl ⟨by rfl, ?_⟩) ?_ ?_
               rotate_left; · intro w'; go_simp; with_reducible rfl
               rotate_left; · simp only [Act.put, sI, sZ, sS, i64_w, i32_w]; rfl
               refine take_ (i := 25) (N := some 102) (v := ?_) (a' := ?_) (TF 26 31) rfl rfl (take_ofW HT_.out HW_.out (by kernel_rfl)) (fun _ _ _ h => h) (Or.inl ⟨by rfl, ?_⟩) hHeld ?_ ?_
               rotate_left
               ·rintro w' ⟨s0, s1, s2, s3, s4, s5, s6, s7, s8, s9, s10, s11, s12, s13, s14, s15⟩
                go_simp
                with_reducible rfl
               rotate_left
               ·simp only [Act.put, sI, sZ, sS, i64_w, i32_w]
                rfl
               refine take_ (i := 26) (N := some 103) (v := ?_) (a' := ?_) (TF 27 30) rfl rfl (take_ofW HT_.out HW_.out (by kernel_rfl)) (fun _ _ _ h => h) (Or.inl ⟨by rfl, ?_⟩) hHeld ?_ ?_
               rotate_left
               ·rintro w' ⟨s0, s1, s2, s3, s4, s5, s6, s7, s8, s9, s10, s11, s12, s13, s14, s15⟩
                go_simp
                with_reducible rfl
               rotate_left
               ·simp only [Act.put, sI, sZ, sS, i64_w, i32_w]
                rfl
               refine one_ (i := 27) (N := some 104) (TF 28 29) rfl rfl (one_of HT_.out (by kernel_rfl)) (by decide) (fun K hK => ?_)
               refine goes_ Tryd.func12 (by kernel_rfl) rfl #[.agg #[.int .u64 a1_0, .int .i64 a1_1, .int .i64 a1_2, .slice A1_3 l1_3.length c1_3]] (by rfl) rfl rfl (by (try simp only [List.map_toArray, List.map_cons, List.map_nil]); first | done | rfl | (simp only [List.length_drop, List.length_take]; rfl) | (rw [wrap_sum2 (by assumption)]; rfl)) ?_
               with_reducible refine (l6_as.calls a1_0 a1_1 a1_2 (fun k_ => k_ < w.heap.size) _ _ l1_3 t442 t443 t444 t445 _ ?side1 A52.out).mono ?_
               (case side1 => exact Kd.V_mk HC1_3.out (Kd.F_below (Kd.C_F k53_heap HR1_3.out) bA))
               rintro e w65 ⟨v446, rfl, ho0, hb⟩
               refine ⟨_, rfl, ?_⟩
               have n0_ := Ax.mk (Kd.R_below (by exact Kd.R_to HO429.out) hb)
               have n1_ := Ax.mk (Kd.R_below (by exact Kd.R_to HO438.out) hb)
               have n2_ := Ax.mk (Kd.V_lower (Kd.V_mono (ok' := fun k_ => some k_ ≠ (.slice Ao36 t427.length co36 : Value).ownBlock ∧ some k_ ≠ (.slice Ao43 t436.length co43 : Value).ownBlock ∧ k_ ≠ gb417 ∧ k_ ≠ gb418 ∧ k_ ≠ gb432 ∧ k_ ≠ gb441) ho0 (fun k_ hk_ => ⟨Or.elim hk_ (fun hs_ => fun e_ => Nat.not_le.2 hs_ (Kd.R_base HO429.out k_ e_.symm)) (fun hn_ => (Kd.fresh' (Kd.R_lt (by exact Kd.R_to HO429.out)) k_ hn_)), Or.elim hk_ (fun hs_ => fun e_ => Nat.not_le.2 hs_ (Kd.R_base HO438.out k_ e_.symm)) (fun hn_ => (Kd.fresh' (Kd.R_lt (by exact Kd.R_to HO438.out)) k_ hn_)), Or.elim hk_ (fun hs_ => fun e_ => Nat.not_le.2 hs_ (by rw [e_]; exact GW417.out)) (fun hn_ => (Kd.freshB (g := gb417) (o := .cells #[.int .u64 a0_0, .int .i64 a0_1, .int .i64 a0_2, .slice A0_3 l0_3.length c0_3] 25 (0, 0)) (bT BK417.out) k_ hn_)), Or.elim hk_ (fun hs_ => fun e_ => Nat.not_le.2 hs_ (by rw [e_]; exact GW418.out)) (fun hn_ => (Kd.freshB (g := gb418) (o := .cells #[.int .u64 a1_0, .int .i64 a1_1, .int .i64 a1_2, .slice A1_3 l1_3.length c1_3] 25 (0, 0)) (bT BK418.out) k_ hn_)), Or.elim hk_ (fun hs_ => fun e_ => Nat.not_le.2 hs_ (by rw [e_]; exact GW432.out)) (fun hn_ => (Kd.freshB (g := gb432) (o := .cells #[.int .u64 t424, .int .i64 t425, .int .i64 t426, .slice Ao36 t427.length co36] 25 (0, 0)) (bT BK432.out) k_ hn_)), Or.elim hk_ (fun hs_ => fun e_ => Nat.not_le.2 hs_ (by rw [e_]; exact GW441.out)) (fun hn_ => (Kd.freshB (g := gb441) (o := .cells #[.int .u64 t433, .int .i64 t434, .int .i64 t435, .slice Ao43 t436.length co43] 25 (0, 0)) (bT BK441.out) k_ hn_))⟩)) (bS bA))
               have n3_ := Ax.mk (bB (bT BK417.out) hb)
               have n4_ := Ax.mk (bB (bT BK418.out) hb)
               have n5_ := Ax.mk (bB (bT BK432.out) hb)
               have n6_ := Ax.mk (bB (bT BK441.out) hb)
               have n7_ := Ax.mk (bP bA hb)
               clear HO429
               clear HO438
               clear BK417
               clear BK418
               clear BK432
               clear BK441
               clear HB
               have HO429 := n0_
               have HO438 := n1_
               have HO447 := n2_
               have BK417 := n3_
               have BK418 := n4_
               have BK432 := n5_
               have BK441 := n6_
               have HB := n7_
               clear n0_ n1_ n2_ n3_ n4_ n5_ n6_ n7_
               (try clear hb)
               (try clear hb2)
               (try clear hk)
               (try clear hi)
               (try clear ho0)
               obtain ⟨Ao66, co66, eo66⟩ := Kd.V_slice HO447.out
               (first | subst eo66 | (injection eo66 with f1_ f2_ f3_; have f4_ := f1_.symm; have f5_ := f3_.symm; clear f1_ f2_ f3_; subst f4_; subst f5_))
               refine hK.out _ _ ⟨(bC BK417.out 0).trans rfl, (bC BK417.out 1).trans rfl, (bC BK417.out 2).trans rfl, (bC BK417.out 3).trans rfl, (bC BK418.out 0).trans rfl, (bC BK418.out 1).trans rfl, (bC BK418.out 2).trans rfl, (bC BK418.out 3).trans rfl, (bC BK432.out 0).trans rfl, (bC BK432.out 1).trans rfl, (bC BK432.out 2).trans rfl, (bC BK432.out 3).trans rfl, (bC BK441.out 0).trans rfl, (bC BK441.out 1).trans rfl, (bC BK441.out 2).trans rfl, (bC BK441.out 3).trans rfl⟩ (fun hHeld => ?_)
               clear hK K
               refine norm_ (a' := ?_) ?_ ?_
               rotate_left
               ·show Act.put _ (some 104) _ = _
                simp only [Act.put, sI, sZ, sS, i64_w, i32_w]
                rfl
               refine one_ (i := 28) (N := some 105) (TF 29 28) rfl rfl (one_of HT_.out (by kernel_rfl)) (by decide) (fun K hK => ?_)
               refine goes_ Tryd.func20 (by kernel_rfl) rfl #[.agg #[.int .u64 t424, .int .i64 t425, .int .i64 t426, .slice Ao36 t427.length co36], .agg #[.int .u64 t442, .int .i64 t443, .int .i64 t444, .slice Ao66 t445.length co66]] (by rfl) rfl rfl (by (try simp only [List.map_toArray, List.map_cons, List.map_nil]); first | done | rfl | (simp only [List.length_drop, List.length_take]; rfl) | (rw [wrap_sum2 (by assumption)]; rfl)) ?_
               with_reducible refine (l6_same.calls kj19 t424 t425 t426 _ _ t427 t442 t443 t444 _ _ t445 true _ ?side1 ?side2 ?side3 ?side4 A53.out).mono ?_
               (case side1 => repeat (first | exact (Kd.R_reads' HO429.out).2.2 | (with_reducible refine Kd.C_alloc ?_ _) | (with_reducible refine Kd.C_drewN ?_ _) | (with_reducible refine Kd.C_drew ?_)))
               (case side2 => exact (Kd.R_reads' HO429.out).2.1)
               (case side3 => repeat (first | exact (Kd.V_reads' HO447.out).2.2 | (with_reducible refine Kd.C_alloc ?_ _) | (with_reducible refine Kd.C_drewN ?_ _) | (with_reducible refine Kd.C_drew ?_)))
               (case side4 => exact (Kd.V_reads' HO447.out).2.1)
               rintro e w67 ⟨rfl, hb⟩
               refine ⟨_, rfl, ?_⟩
               have n0_ := Ax.mk (Kd.R_below (by exact Kd.R_to HO429.out) hb)
               have n1_ := Ax.mk (Kd.R_below (by exact Kd.R_to HO438.out) hb)
               have n2_ := Ax.mk (Kd.V_below (by exact Kd.V_to HO447.out) hb)
               have n3_ := Ax.mk (bB (bT BK417.out) hb)
               have n4_ := Ax.mk (bB (bT BK418.out) hb)
               have n5_ := Ax.mk (bB (bT BK432.out) hb)
               have n6_ := Ax.mk (bB (bT BK441.out) hb)
               have n7_ := Ax.mk (bP bA hb)
               clear HO429
               clear HO438
               clear HO447
               clear BK417
               clear BK418
               clear BK432
               clear BK441
               clear HB
               have HO429 := n0_
               have HO438 := n1_
               have HO447 := n2_
               have BK417 := n3_
               have BK418 := n4_
               have BK432 := n5_
               have BK441 := n6_
               have HB := n7_
               clear n0_ n1_ n2_ n3_ n4_ n5_ n6_ n7_
               (try clear hb)
               (try clear hb2)
               (try clear hk)
               (try clear hi)
               refine hK.out _ _ ⟨(bC BK417.out 0).trans rfl, (bC BK417.out 1).trans rfl, (bC BK417.out 2).trans rfl, (bC BK417.out 3).trans rfl, (bC BK418.out 0).trans rfl, (bC BK418.out 1).trans rfl, (bC BK418.out 2).trans rfl, (bC BK418.out 3).trans rfl, (bC BK432.out 0).trans rfl, (bC BK432.out 1).trans rfl, (bC BK432.out 2).trans rfl, (bC BK432.out 3).trans rfl, (bC BK441.out 0).trans rfl, (bC BK441.out 1).trans rfl, (bC BK441.out 2).trans rfl, (bC BK441.out 3).trans rfl⟩ (fun hHeld => ?_)
               clear hK K
               refine norm_ (a' := ?_) ?_ ?_
               rotate_left
               ·show Act.put _ (some 105) _ = _
                simp only [Act.put, sI, sZ, sS, i64_w, i32_w]
                rfl
               refine pure_ (i := 29) (N := some 106) (v := ?_) (a' := ?_) (TF 30 27) rfl rfl (any_of HT_.out (by kernel_rfl)) (fun _ _ _ h => h) (Or.inl ⟨by rfl, ?_⟩) ?_ ?_
               rotate_left; · intro w'; go_simp; with_reducible rfl
               rotate_left; · simp only [Act.put, sI, sZ, sS, i64_w, i32_w]; rfl
               refine pure_ (i := 30) (N := some 107) (v := ?_) (a' := ?_) (TF 31 26) rfl rfl (any_of HT_.out (by kernel_rfl)) (fun _ _ _ h => h) (Or.inl ⟨by rfl, ?_⟩) ?_ ?_
               rotate_left; · intro w'; go_simp; with_reducible rfl
               rotate_left; · simp only [Act.put, sI, sZ, sS, i64_w, i32_w]; rfl
               refine pure_ (i := 31) (N := some 108) (v := ?_) (a' := ?_) (TF 32 25) rfl rfl (any_of HT_.out (by kernel_rfl)) (fun _ _ _ h => h) (Or.inl ⟨by rfl, ?_⟩) ?_ ?_
               rotate_left; · intro w'; go_simp; with_reducible rfl
               rotate_left; · simp only [Act.put, sI, sZ, sS, i64_w, i32_w]; rfl
               refine pure_ (i := 32) (N := some 109) (v := ?_) (a' := ?_) (TF 33 24) rfl rfl (any_of HT_.out (by kernel_rfl)) (fun _ _ _ h => h) (Or.inl ⟨by rfl, ?_⟩) ?_ ?_
               rotate_left; · intro w'; go_simp; with_reducible rfl
               rotate_left; · simp only [Act.put, sI, sZ, sS, i64_w, i32_w]; rfl
               refine pure_ (i := 33) (N := some 110) (v := ?_) (a' := ?_) (TF 34 23) rfl rfl (any_of HT_.out (by kernel_rfl)) (fun _ _ _ h => h) (Or.inl ⟨by rfl, ?_⟩) ?_ ?_
               rotate_left; · intro w'; go_simp; with_reducible rfl
               rotate_left; · simp only [Act.put, sI, sZ, sS, i64_w, i32_w]; rfl
               refine pure_ (i := 34) (N := some 111) (v := ?_) (a' := ?_) (TF 35 22) rfl rfl (any_of HT_.out (by kernel_rfl)) (fun _ _ _ h => h) (Or.inl ⟨by rfl, ?_⟩) ?_ ?_
               rotate_left; · intro w'; go_simp; with_reducible rfl
               rotate_left; · simp only [Act.put, sI, sZ, sS, i64_w, i32_w]; rfl
               refine pure_ (i := 35) (N := some 112) (v := ?_) (a' := ?_) (TF 36 21) rfl rfl (any_of HT_.out (by kernel_rfl)) (fun _ _ _ h => h) (Or.inl ⟨by rfl, ?_⟩) ?_ ?_
               rotate_left; · intro w'; go_simp; with_reducible rfl
               rotate_left; · simp only [Act.put, sI, sZ, sS, i64_w, i32_w]; rfl
               refine pure_ (i := 36) (N := some 113) (v := undef) (a' := ?_) (TF 37 20) rfl rfl (any_of HT_.out (by kernel_rfl)) (fun _ _ _ h => h) (Or.inr ⟨by rfl, rfl⟩) ?_ ?_
               rotate_left
               ·simp only [Act.put, sI, sZ, sS, i64_w, i32_w]
                rfl
               refine pure_ (i := 37) (N := some 114) (v := undef) (a' := ?_) (TF 38 19) rfl rfl (any_of HT_.out (by kernel_rfl)) (fun _ _ _ h => h) (Or.inr ⟨by rfl, rfl⟩) ?_ ?_
               rotate_left
               ·simp only [Act.put, sI, sZ, sS, i64_w, i32_w]
                rfl
               refine pure_ (i := 38) (N := some 115) (v := undef) (a' := ?_) (TF 39 18) rfl rfl (any_of HT_.out (by kernel_rfl)) (fun _ _ _ h => h) (Or.inr ⟨by rfl, rfl⟩) ?_ ?_
               rotate_left
               ·simp only [Act.put, sI, sZ, sS, i64_w, i32_w]
                rfl
               refine pure_ (i := 39) (N := some 116) (v := undef) (a' := ?_) (TF 40 17) rfl rfl (any_of HT_.out (by kernel_rfl)) (fun _ _ _ h => h) (Or.inr ⟨by rfl, rfl⟩) ?_ ?_
               rotate_left
               ·simp only [Act.put, sI, sZ, sS, i64_w, i32_w]
                rfl
               refine pure_ (i := 40) (N := some 117) (v := undef) (a' := ?_) (TF 41 16) rfl rfl (any_of HT_.out (by kernel_rfl)) (fun _ _ _ h => h) (Or.inr ⟨by rfl, rfl⟩) ?_ ?_
               rotate_left
               ·simp only [Act.put, sI, sZ, sS, i64_w, i32_w]
                rfl
               refine pure_ (i := 41) (N := some 118) (v := ?_) (a' := ?_) (TF 42 15) rfl rfl (any_of HT_.out (by kernel_rfl)) (fun _ _ _ h => h) (Or.inl ⟨by rfl, ?_⟩) ?_ ?_
               rotate_left; · intro w'; go_simp; with_reducible rfl
               rotate_left; · simp only [Act.put, sI, sZ, sS, i64_w, i32_w]; rfl
               refine pure_ (i := 42) (N := some 119) (v := ?_) (a' := ?_) (TF 43 14) rfl rfl (any_of HT_.out (by kernel_rfl)) (fun _ _ _ h => h) (Or.inl ⟨by rfl, ?_⟩) ?_ ?_
               rotate_left; · intro w'; go_simp; with_reducible rfl
               rotate_left; · simp only [Act.put, sI, sZ, sS, i64_w, i32_w]; rfl
               refine pure_ (i := 43) (N := some 120) (v := ?_) (a' := ?_) (TF 44 13) rfl rfl (any_of HT_.out (by kernel_rfl)) (fun _ _ _ h => h) (Or.inl ⟨by rfl, ?_⟩) ?_ ?_
               rotate_left; · intro w'; go_simp; with_reducible rfl
               rotate_left; · simp only [Act.put, sI, sZ, sS, i64_w, i32_w]; rfl
               refine pure_ (i := 44) (N := some 121) (v := ?_) (a' := ?_) (TF 45 12) rfl rfl (any_of HT_.out (by kernel_rfl)) (fun _ _ _ h => h) (Or.inl ⟨by rfl, ?_⟩) ?_ ?_
               rotate_left; · intro w'; go_simp; with_reducible rfl
               rotate_left; · simp only [Act.put, sI, sZ, sS, i64_w, i32_w]; rfl
               refine pure_ (i := 46) (N := some 123) (v := ?_) (a' := ?_) #[true, true, true, true, true, true, true, true, true, true, true, true, true, true, true, true, true, true, true, true, true, true, true, true, true, true, true, true, true, true, true, true, true, true, true, true, true, true, true, true, true, true, true, true, true, false, true, false, false, false, false, false, false, false, false, false, false] rfl rfl (any_of HT_.out (by kernel_rfl)) (fun _ _ _ h => h) (Or.inl ⟨by rfl, ?_⟩) ?_ ?_
               rotate_left; · intro w'; go_simp; with_reducible rfl
               rotate_left; · simp only [Act.put, sI, sZ, sS, i64_w, i32_w]; rfl
               refine take_ (i := 45) (N := some 122) (v := ?_) (a' := ?_) (TF 47 10) rfl rfl (take_ofW HT_.out HW_.out (by kernel_rfl)) (fun _ _ _ h => h) (Or.inl ⟨by rfl, ?_⟩) hHeld ?_ ?_
               rotate_left
               ·rintro w' ⟨s0, s1, s2, s3, s4, s5, s6, s7, s8, s9, s10, s11, s12, s13, s14, s15⟩
                go_simp
                with_reducible rfl
               rotate_left
               ·simp only [Act.put, sI, sZ, sS, i64_w, i32_w]
                rfl
               refine take_ (i := 47) (N := some 124) (v := ?_) (a' := ?_) (TF 48 9) rfl rfl (take_ofW HT_.out HW_.out (by kernel_rfl)) (fun _ _ _ h => h) (Or.inl ⟨by rfl, ?_⟩) hHeld ?_ ?_
               rotate_left
               ·rintro w' ⟨s0, s1, s2, s3, s4, s5, s6, s7, s8, s9, s10, s11, s12, s13, s14, s15⟩
                go_simp
                with_reducible rfl
               rotate_left
               ·simp only [Act.put, sI, sZ, sS, i64_w, i32_w]
                rfl
               refine pure_ (i := 48) (N := some 125) (v := ?_) (a' := ?_) (TF 49 8) rfl rfl (any_of HT_.out (by kernel_rfl)) (fun _ _ _ h => h) (Or.inl ⟨by rfl, ?_⟩) ?_ ?_
               rotate_left; · intro w'; go_simp; with_reducible rfl
               rotate_left; · simp only [Act.put, sI, sZ, sS, i64_w, i32_w]; rfl
               refine pure_ (i := 49) (N := some 126) (v := ?_) (a' := ?_) (TF 50 7) rfl rfl (any_of HT_.out (by kernel_rfl)) (fun _ _ _ h => h) (Or.inl ⟨by rfl, ?_⟩) ?_ ?_
               rotate_left; · intro w'; go_simp; with_reducible rfl
               rotate_left; · simp only [Act.put, sI, sZ, sS, i64_w, i32_w]; rfl
               refine take_ (i := 50) (N := some 127) (v := ?_) (a' := ?_) (TF 51 6) rfl rfl (take_ofW HT_.out HW_.out (by kernel_rfl)) (fun _ _ _ h => h) (Or.inl ⟨by rfl, ?_⟩) hHeld ?_ ?_
               rotate_left
               ·rintro w' ⟨s0, s1, s2, s3, s4, s5, s6, s7, s8, s9, s10, s11, s12, s13, s14, s15⟩
                go_simp
                with_reducible rfl
               rotate_left
               ·simp only [Act.put, sI, sZ, sS, i64_w, i32_w]
                rfl
               refine take_ (i := 51) (N := some 128) (v := ?_) (a' := ?_) (TF 52 5) rfl rfl (take_ofW HT_.out HW_.out (by kernel_rfl)) (fun _ _ _ h => h) (Or.inl ⟨by rfl, ?_⟩) hHeld ?_ ?_
               rotate_left
               ·rintro w' ⟨s0, s1, s2, s3, s4, s5, s6, s7, s8, s9, s10, s11, s12, s13, s14, s15⟩
                go_simp
                with_reducible rfl
               rotate_left
               ·simp only [Act.put, sI, sZ, sS, i64_w, i32_w]
                rfl
               refine one_ (i := 52) (N := some 129) (TF 53 4) rfl rfl (one_of HT_.out (by kernel_rfl)) (by decide) (fun K hK => ?_)
               refine goes_ Tryd.func12 (by kernel_rfl) rfl #[.agg #[.int .u64 t424, .int .i64 t425, .int .i64 t426, .slice Ao36 t427.length co36]] (by rfl) rfl rfl (by (try simp only [List.map_toArray, List.map_cons, List.map_nil]); first | done | rfl | (simp only [List.length_drop, List.length_take]; rfl) | (rw [wrap_sum2 (by assumption)]; rfl)) ?_
               with_reducible refine (l6_as.calls t424 t425 t426 (fun k_ => some k_ = (.slice Ao36 t427.length co36 : Value).ownBlock) _ _ t427 t449 t450 t451 t452 _ ?side1 A61.out).mono ?_
               (case side1 => exact Kd.R_V (Kd.R_tight rfl (Kd.R_types (Kd.R_types (Kd.R_types (Kd.R_types (HO429.out) BK417.out (by decide)) BK418.out (by decide)) BK432.out (by decide)) BK441.out (by decide))))
               rintro e w68 ⟨v453, rfl, ho0, hb⟩
               refine ⟨_, rfl, ?_⟩
               have n0_ := Ax.mk (Kd.R_below (by exact Kd.R_to HO429.out) hb)
               have n1_ := Ax.mk (Kd.R_below (by exact Kd.R_to HO438.out) hb)
               have n2_ := Ax.mk (Kd.V_below (by exact Kd.V_to HO447.out) hb)
               have n3_ := Ax.mk (Kd.V_lower (Kd.V_mono (ok' := fun k_ => some k_ ≠ (.slice Ao43 t436.length co43 : Value).ownBlock ∧ k_ ≠ gb417 ∧ k_ ≠ gb418 ∧ k_ ≠ gb432 ∧ k_ ≠ gb441) ho0 (fun k_ hk_ => ⟨Or.elim hk_ (fun hs_ => ((Kd.R_types (Kd.R_types (Kd.R_types (Kd.R_types (HO429.out) BK417.out (by decide)) BK418.out (by decide)) BK432.out (by decide)) BK441.out (by decide)).1 k_ hs_.symm).1.1.1.1) (fun hn_ => (Kd.fresh' (Kd.R_lt (by exact Kd.R_to HO438.out)) k_ hn_)), Or.elim hk_ (fun hs_ => ((Kd.R_types (Kd.R_types (Kd.R_types (Kd.R_types (HO429.out) BK417.out (by decide)) BK418.out (by decide)) BK432.out (by decide)) BK441.out (by decide)).1 k_ hs_.symm).1.1.1.2) (fun hn_ => (Kd.freshB (g := gb417) (o := .cells #[.int .u64 a0_0, .int .i64 a0_1, .int .i64 a0_2, .slice A0_3 l0_3.length c0_3] 25 (0, 0)) (bT BK417.out) k_ hn_)), Or.elim hk_ (fun hs_ => ((Kd.R_types (Kd.R_types (Kd.R_types (Kd.R_types (HO429.out) BK417.out (by decide)) BK418.out (by decide)) BK432.out (by decide)) BK441.out (by decide)).1 k_ hs_.symm).1.1.2) (fun hn_ => (Kd.freshB (g := gb418) (o := .cells #[.int .u64 a1_0, .int .i64 a1_1, .int .i64 a1_2, .slice A1_3 l1_3.length c1_3] 25 (0, 0)) (bT BK418.out) k_ hn_)), Or.elim hk_ (fun hs_ => ((Kd.R_types (Kd.R_types (Kd.R_types (Kd.R_types (HO429.out) BK417.out (by decide)) BK418.out (by decide)) BK432.out (by decide)) BK441.out (by decide)).1 k_ hs_.symm).1.2) (fun hn_ => (Kd.freshB (g := gb432) (o := .cells #[.int .u64 t424, .int .i64 t425, .int .i64 t426, .slice Ao36 t427.length co36] 25 (0, 0)) (bT BK432.out) k_ hn_)), Or.elim hk_ (fun hs_ => ((Kd.R_types (Kd.R_types (Kd.R_types (Kd.R_types (HO429.out) BK417.out (by decide)) BK418.out (by decide)) BK432.out (by decide)) BK441.out (by decide)).1 k_ hs_.symm).2) (fun hn_ => (Kd.freshB (g := gb441) (o := .cells #[.int .u64 t433, .int .i64 t434, .int .i64 t435, .slice Ao43 t436.length co43] 25 (0, 0)) (bT BK441.out) k_ hn_))⟩)) (bS bA))
               have n4_ := Ax.mk (bB (bT BK417.out) hb)
               have n5_ := Ax.mk (bB (bT BK418.out) hb)
               have n6_ := Ax.mk (bB (bT BK432.out) hb)
               have n7_ := Ax.mk (bB (bT BK441.out) hb)
               have n8_ := Ax.mk (bP bA hb)
               clear HO429
               clear HO438
               clear HO447
               clear BK417
               clear BK418
               clear BK432
               clear BK441
               clear HB
               have HO429 := n0_
               have HO438 := n1_
               have HO447 := n2_
               have HO454 := n3_
               have BK417 := n4_
               have BK418 := n5_
               have BK432 := n6_
               have BK441 := n7_
               have HB := n8_
               clear n0_ n1_ n2_ n3_ n4_ n5_ n6_ n7_ n8_
               (try clear hb)
               (try clear hb2)
               (try clear hk)
               (try clear hi)
               (try clear ho0)
               obtain ⟨Ao69, co69, eo69⟩ := Kd.V_slice HO454.out
               (first | subst eo69 | (injection eo69 with f1_ f2_ f3_; have f4_ := f1_.symm; have f5_ := f3_.symm; clear f1_ f2_ f3_; subst f4_; subst f5_))
               refine hK.out _ _ ⟨(bC BK417.out 0).trans rfl, (bC BK417.out 1).trans rfl, (bC BK417.out 2).trans rfl, (bC BK417.out 3).trans rfl, (bC BK418.out 0).trans rfl, (bC BK418.out 1).trans rfl, (bC BK418.out 2).trans rfl, (bC BK418.out 3).trans rfl, (bC BK432.out 0).trans rfl, (bC BK432.out 1).trans rfl, (bC BK432.out 2).trans rfl, (bC BK432.out 3).trans rfl, (bC BK441.out 0).trans rfl, (bC BK441.out 1).trans rfl, (bC BK441.out 2).trans rfl, (bC BK441.out 3).trans rfl⟩ (fun hHeld => ?_)
               clear hK K
               refine norm_ (a' := ?_) ?_ ?_
               rotate_left
               ·show Act.put _ (some 129) _ = _
                simp only [Act.put, sI, sZ, sS, i64_w, i32_w]
                rfl
               refine one_ (i := 53) (N := some 130) (TF 54 3) rfl rfl (one_of HT_.out (by kernel_rfl)) (by decide) (fun K hK => ?_)
               refine goes_ Tryd.func20 (by kernel_rfl) rfl #[.agg #[.int .u64 t433, .int .i64 t434, .int .i64 t435, .slice Ao43 t436.length co43], .agg #[.int .u64 t449, .int .i64 t450, .int .i64 t451, .slice Ao69 t452.length co69]] (by rfl) rfl rfl (by (try simp only [List.map_toArray, List.map_cons, List.map_nil]); first | done | rfl | (simp only [List.length_drop, List.length_take]; rfl) | (rw [wrap_sum2 (by assumption)]; rfl)) ?_
               with_reducible refine (l6_same.calls kj19 t433 t434 t435 _ _ t436 t449 t450 t451 _ _ t452 t455 _ ?side1 ?side2 ?side3 ?side4 A62.out).mono ?_
               (case side1 => repeat (first | exact (Kd.R_reads' HO438.out).2.2 | (with_reducible refine Kd.C_alloc ?_ _) | (with_reducible refine Kd.C_drewN ?_ _) | (with_reducible refine Kd.C_drew ?_)))
               (case side2 => exact (Kd.R_reads' HO438.out).2.1)
               (case side3 => repeat (first | exact (Kd.V_reads' HO454.out).2.2 | (with_reducible refine Kd.C_alloc ?_ _) | (with_reducible refine Kd.C_drewN ?_ _) | (with_reducible refine Kd.C_drew ?_)))
               (case side4 => exact (Kd.V_reads' HO454.out).2.1)
               rintro e w70 ⟨rfl, hb⟩
               refine ⟨_, rfl, ?_⟩
               have n0_ := Ax.mk (Kd.R_below (by exact Kd.R_to HO429.out) hb)
               have n1_ := Ax.mk (Kd.R_below (by exact Kd.R_to HO438.out) hb)
               have n2_ := Ax.mk (Kd.V_below (by exact Kd.V_to HO447.out) hb)
               have n3_ := Ax.mk (Kd.V_below (by exact Kd.V_to HO454.out) hb)
               have n4_ := Ax.mk (bB (bT BK417.out) hb)
               have n5_ := Ax.mk (bB (bT BK418.out) hb)
               have n6_ := Ax.mk (bB (bT BK432.out) hb)
               have n7_ := Ax.mk (bB (bT BK441.out) hb)
               have n8_ := Ax.mk (bP bA hb)
               clear HO429
               clear HO438
               clear HO447
               clear HO454
               clear BK417
               clear BK418
               clear BK432
               clear BK441
               clear HB
               have HO429 := n0_
               have HO438 := n1_
               have HO447 := n2_
               have HO454 := n3_
               have BK417 := n4_
               have BK418 := n5_
               have BK432 := n6_
               have BK441 := n7_
               have HB := n8_
               clear n0_ n1_ n2_ n3_ n4_ n5_ n6_ n7_ n8_
               (try clear hb)
               (try clear hb2)
               (try clear hk)
               (try clear hi)
               refine hK.out _ _ ⟨(bC BK417.out 0).trans rfl, (bC BK417.out 1).trans rfl, (bC BK417.out 2).trans rfl, (bC BK417.out 3).trans rfl, (bC BK418.out 0).trans rfl, (bC BK418.out 1).trans rfl, (bC BK418.out 2).trans rfl, (bC BK418.out 3).trans rfl, (bC BK432.out 0).trans rfl, (bC BK432.out 1).trans rfl, (bC BK432.out 2).trans rfl, (bC BK432.out 3).trans rfl, (bC BK441.out 0).trans rfl, (bC BK441.out 1).trans rfl, (bC BK441.out 2).trans rfl, (bC BK441.out 3).trans rfl⟩ (fun hHeld => ?_)
               clear hK K
               refine norm_ (a' := ?_) ?_ ?_
               rotate_left
               ·show Act.put _ (some 130) _ = _
                simp only [Act.put, sI, sZ, sS, i64_w, i32_w]
                rfl
               refine pure_ (i := 54) (N := some 131) (v := ?_) (a' := ?_) (TF 55 2) rfl rfl (any_of HT_.out (by kernel_rfl)) (fun _ _ _ h => h) (Or.inl ⟨by rfl, ?_⟩) ?_ ?_
               rotate_left; · intro w'; go_simp; with_reducible rfl
               rotate_left; · simp only [Act.put, sI, sZ, sS, i64_w, i32_w]; rfl
               refine pure_ (i := 55) (N := some 132) (v := ?_) (a' := ?_) (TF 56 1) rfl rfl (any_of HT_.out (by kernel_rfl)) (fun _ _ _ h => h) (Or.inl ⟨by rfl, ?_⟩) ?_ ?_
               rotate_left; · intro w'; go_simp; with_reducible rfl
               rotate_left; · simp only [Act.put, sI, sZ, sS, i64_w, i32_w]; rfl
               refine pure_ (i := 56) (N := some 133) (v := ?_) (a' := ?_) (TF 57 0) rfl rfl (any_of HT_.out (by kernel_rfl)) (fun _ _ _ h => h) (Or.inl ⟨by rfl, ?_⟩) ?_ ?_
               rotate_left; · intro w'; go_simp; with_reducible rfl
               rotate_left; · simp only [Act.put, sI, sZ, sS, i64_w, i32_w]; rfl
               refine done_ (done_of HT_.out (by kernel_rfl)) ?_
               try go_wp2
               go_meet
               case rel => exact ⟨_, (!t455), (by first | rfl | (simp; done) | (simp [*]; done)), H', ⟨by have := HJ5.out; have := HJ19.out; first | omega | exact Nat.le_refl _⟩, ⟨by apply Kd.R_to; exact HO429.out⟩, ⟨by apply Kd.R_to; exact HO438.out⟩, ⟨by refine bT ?_; exact BK417.out⟩, ⟨by refine bT ?_; exact BK418.out⟩, ⟨by refine bT ?_; exact BK432.out⟩, ⟨by refine bT ?_; exact BK441.out⟩, ⟨bA⟩⟩
             ·replace c54 := Bool.eq_false_iff.mpr c54
              subst c54
              have H1 : (none) = some r := by rw [if_neg (show ¬ (false = true) by decide)] at H; exact H
              clear H
              have H := H1
              clear H1
              exact absurd H (by simp)
            ·rw [if_neg c51] at H
             have c51b0 : decide (a0_0 < a1_0) = false := decide_eq_false c51
             have c49e : (t430 == 1) = false := (bne_eq_false_iff_eq.mp c49b0).trans c51b0
             clear c51
             replace H := Option.bind_eq_some_iff.mp H
             obtain ⟨⟨t456, t457, t458, t459⟩, A710, H⟩ := H
             replace H : ((l6_same.f kj19 t424 t425 t426 t427 t456 t457 t458 t459).bind fun t462 => (if t462 = true then (if a0_0 = a1_0 then (l6_HeadEither.j2 kj19 a2 a3 t420 t422 false a0_0 a0_1 a0_2 l0_3) else ((l6_as.f t424 t425 t426 t427).bind fun bt463 => ((l6_same.f kj19 t433 t434 t435 t436 bt463.1 bt463.2.1 bt463.2.2.1 bt463.2.2.2).bind fun t469 => (l6_HeadEither.j2 kj19 a2 a3 t420 t422 (!t469) a0_0 a0_1 a0_2 l0_3)))) else (none))) = some r := H
             have A71 := Ax.mk A710
             clear A710
             replace H := Option.bind_eq_some_iff.mp H
             obtain ⟨t462, A720, H⟩ := H
             replace H : (if t462 = true then (if a0_0 = a1_0 then (l6_HeadEither.j2 kj19 a2 a3 t420 t422 false a0_0 a0_1 a0_2 l0_3) else ((l6_as.f t424 t425 t426 t427).bind fun bt463 => ((l6_same.f kj19 t433 t434 t435 t436 bt463.1 bt463.2.1 bt463.2.2.1 bt463.2.2.2).bind fun t469 => (l6_HeadEither.j2 kj19 a2 a3 t420 t422 (!t469) a0_0 a0_1 a0_2 l0_3)))) else (none)) = some r := H
             have A72 := Ax.mk A720
             clear A720
             by_cases c73 : t462 = true
             ·subst c73
              have H1 : (if a0_0 = a1_0 then (l6_HeadEither.j2 kj19 a2 a3 t420 t422 false a0_0 a0_1 a0_2 l0_3) else ((l6_as.f t424 t425 t426 t427).bind fun bt463 => ((l6_same.f kj19 t433 t434 t435 t436 bt463.1 bt463.2.1 bt463.2.2.1 bt463.2.2.2).bind fun t469 => (l6_HeadEither.j2 kj19 a2 a3 t420 t422 (!t469) a0_0 a0_1 a0_2 l0_3)))) = some r := by rw [if_pos rfl] at H; exact H
              clear H
              have H := H1
              clear H1
              by_cases c74 : a0_0 = a1_0
              ·rw [if_pos c74] at H
               have c74b0 : (a0_0 == a1_0) = true := beq_iff_eq.mpr c74
               have c74b1 : (a0_0 != a1_0) = false := bne_eq_false_iff_eq.mpr c74
               clear c74
               have H' := Ax.mk H
               clear H
               try go_wp2
               have n0_ : Ax (Kd.R k53 53 ((((w38.setCell ⟨gb441, 0, none⟩ (.int .u64 t433)).setCell ⟨gb441, 1, none⟩ (.int .i64 t434)).setCell ⟨gb441, 2, none⟩ (.int .i64 t435)).setCell ⟨gb441, 3, none⟩ (.slice Ao43 t436.length co43)) w.heap.size (fun k_ => some k_ ≠ (.slice Ao43 t436.length co43 : Value).ownBlock) (.slice Ao36 t427.length co36) t427) := ⟨by apply Kd.R_to; exact Kd.R_mono (Kd.R_far (p := ⟨gb441, 3, none⟩) (Kd.R_far (p := ⟨gb441, 2, none⟩) (Kd.R_far (p := ⟨gb441, 1, none⟩) (Kd.R_far (p := ⟨gb441, 0, none⟩) (Kd.R_types HO429.out BK441.out (by decide)) (fun _ hk => hk.2) (.int .u64 t433)) (fun _ hk => hk.2) (.int .i64 t434)) (fun _ hk => hk.2) (.int .i64 t435)) (fun _ hk => hk.2) (.slice Ao43 t436.length co43)) (fun _ hk => hk.1.2)⟩
               have n1_ : Ax (Kd.R k53 53 ((((w38.setCell ⟨gb441, 0, none⟩ (.int .u64 t433)).setCell ⟨gb441, 1, none⟩ (.int .i64 t434)).setCell ⟨gb441, 2, none⟩ (.int .i64 t435)).setCell ⟨gb441, 3, none⟩ (.slice Ao43 t436.length co43)) w.heap.size (fun k_ => some k_ ≠ (.slice Ao36 t427.length co36 : Value).ownBlock) (.slice Ao43 t436.length co43) t436) := ⟨by apply Kd.R_to; exact Kd.R_mono (Kd.R_far (p := ⟨gb441, 3, none⟩) (Kd.R_far (p := ⟨gb441, 2, none⟩) (Kd.R_far (p := ⟨gb441, 1, none⟩) (Kd.R_far (p := ⟨gb441, 0, none⟩) (Kd.R_types HO438.out BK441.out (by decide)) (fun _ hk => hk.2) (.int .u64 t433)) (fun _ hk => hk.2) (.int .i64 t434)) (fun _ hk => hk.2) (.int .i64 t435)) (fun _ hk => hk.2) (.slice Ao43 t436.length co43)) (fun _ hk => hk.1.2)⟩
               have n2_ : Ax (((((w38.setCell ⟨gb441, 0, none⟩ (.int .u64 t433)).setCell ⟨gb441, 1, none⟩ (.int .i64 t434)).setCell ⟨gb441, 2, none⟩ (.int .i64 t435)).setCell ⟨gb441, 3, none⟩ (.slice Ao43 t436.length co43)).heap[gb417]? = some (.cells #[.int .u64 a0_0, .int .i64 a0_1, .int .i64 a0_2, .slice A0_3 l0_3.length c0_3] 25 (0, 0))) := ⟨by refine bT ?_; refine bR ?_ NB417_441.out _; refine bT ?_; refine bR ?_ NB417_441.out _; refine bT ?_; refine bR ?_ NB417_441.out _; refine bT ?_; refine bR ?_ NB417_441.out _; refine bT ?_; exact BK417.out⟩
               have n3_ : Ax (((((w38.setCell ⟨gb441, 0, none⟩ (.int .u64 t433)).setCell ⟨gb441, 1, none⟩ (.int .i64 t434)).setCell ⟨gb441, 2, none⟩ (.int .i64 t435)).setCell ⟨gb441, 3, none⟩ (.slice Ao43 t436.length co43)).heap[gb418]? = some (.cells #[.int .u64 a1_0, .int .i64 a1_1, .int .i64 a1_2, .slice A1_3 l1_3.length c1_3] 25 (0, 0))) := ⟨by refine bT ?_; refine bR ?_ NB418_441.out _; refine bT ?_; refine bR ?_ NB418_441.out _; refine bT ?_; refine bR ?_ NB418_441.out _; refine bT ?_; refine bR ?_ NB418_441.out _; refine bT ?_; exact BK418.out⟩
               have n4_ : Ax (((((w38.setCell ⟨gb441, 0, none⟩ (.int .u64 t433)).setCell ⟨gb441, 1, none⟩ (.int .i64 t434)).setCell ⟨gb441, 2, none⟩ (.int .i64 t435)).setCell ⟨gb441, 3, none⟩ (.slice Ao43 t436.length co43)).heap[gb432]? = some (.cells #[.int .u64 t424, .int .i64 t425, .int .i64 t426, .slice Ao36 t427.length co36] 25 (0, 0))) := ⟨by refine bT ?_; refine bR ?_ NB432_441.out _; refine bT ?_; refine bR ?_ NB432_441.out _; refine bT ?_; refine bR ?_ NB432_441.out _; refine bT ?_; refine bR ?_ NB432_441.out _; refine bT ?_; exact BK432.out⟩
               have n5_ : Ax (((((w38.setCell ⟨gb441, 0, none⟩ (.int .u64 t433)).setCell ⟨gb441, 1, none⟩ (.int .i64 t434)).setCell ⟨gb441, 2, none⟩ (.int .i64 t435)).setCell ⟨gb441, 3, none⟩ (.slice Ao43 t436.length co43)).heap[gb441]? = some (.cells #[.int .u64 t433, .int .i64 t434, .int .i64 t435, .slice Ao43 t436.length co43] 25 (0, 0))) := ⟨by refine bT ?_; refine bU (cs := #[.int .u64 t433, .int .i64 t434, .int .i64 t435, .slice none 0 0]) ?_ 3 _ rfl; refine bT ?_; refine bU (cs := #[.int .u64 t433, .int .i64 t434, .int .i64 0, .slice none 0 0]) ?_ 2 _ rfl; refine bT ?_; refine bU (cs := #[.int .u64 t433, .int .i64 0, .int .i64 0, .slice none 0 0]) ?_ 1 _ rfl; refine bT ?_; refine bU (cs := #[.int .u64 0, .int .i64 0, .int .i64 0, .slice none 0 0]) ?_ 0 _ rfl; refine bT ?_; exact BK441.out⟩
               have n6_ : Ax (Below w.heap.size w ((((w38.setCell ⟨gb441, 0, none⟩ (.int .u64 t433)).setCell ⟨gb441, 1, none⟩ (.int .i64 t434)).setCell ⟨gb441, 2, none⟩ (.int .i64 t435)).setCell ⟨gb441, 3, none⟩ (.slice Ao43 t436.length co43))) := ⟨bA⟩
               (try clear HO429)
               (try clear HO438)
               (try clear BK417)
               (try clear BK418)
               (try clear BK432)
               (try clear BK441)
               (try clear HB)
               generalize ((((w38.setCell ⟨gb441, 0, none⟩ (.int .u64 t433)).setCell ⟨gb441, 1, none⟩ (.int .i64 t434)).setCell ⟨gb441, 2, none⟩ (.int .i64 t435)).setCell ⟨gb441, 3, none⟩ (.slice Ao43 t436.length co43)) = w75 at n0_ n1_ n2_ n3_ n4_ n5_ n6_ ⊢
               have HO429 := n0_
               have HO438 := n1_
               have BK417 := n2_
               have BK418 := n3_
               have BK432 := n4_
               have BK441 := n5_
               have HB := n6_
               clear n0_ n1_ n2_ n3_ n4_ n5_ n6_
               have n0_ := Ax.mk (Kd.R_drew HO429.out)
               have n1_ := Ax.mk (Kd.R_drew HO438.out)
               have n2_ := Ax.mk (blk_drew BK417.out)
               have n3_ := Ax.mk (blk_drew BK418.out)
               have n4_ := Ax.mk (blk_drew BK432.out)
               have n5_ := Ax.mk (blk_drew BK441.out)
               have n6_ := Ax.mk (below_drew1 HB.out)
               clear HO429
               clear HO438
               clear BK417
               clear BK418
               clear BK432
               clear BK441
               clear HB
               have HO429 := n0_
               have HO438 := n1_
               have BK417 := n2_
               have BK418 := n3_
               have BK432 := n4_
               have BK441 := n5_
               have HB := n6_
               clear n0_ n1_ n2_ n3_ n4_ n5_ n6_
               as_aux_lemma =>
               refine start_ (n := 57) (S := fun w' => w'.cell? ⟨gb417, 0, none⟩ = some (.int .u64 a0_0) ∧ w'.cell? ⟨gb417, 1, none⟩ = some (.int .i64 a0_1) ∧ w'.cell? ⟨gb417, 2, none⟩ = some (.int .i64 a0_2) ∧ w'.cell? ⟨gb417, 3, none⟩ = some (.slice A0_3 l0_3.length c0_3) ∧ w'.cell? ⟨gb418, 0, none⟩ = some (.int .u64 a1_0) ∧ w'.cell? ⟨gb418, 1, none⟩ = some (.int .i64 a1_1) ∧ w'.cell? ⟨gb418, 2, none⟩ = some (.int .i64 a1_2) ∧ w'.cell? ⟨gb418, 3, none⟩ = some (.slice A1_3 l1_3.length c1_3) ∧ w'.cell? ⟨gb432, 0, none⟩ = some (.int .u64 t424) ∧ w'.cell? ⟨gb432, 1, none⟩ = some (.int .i64 t425) ∧ w'.cell? ⟨gb432, 2, none⟩ = some (.int .i64 t426) ∧ w'.cell? ⟨gb432, 3, none⟩ = some (.slice Ao36 t427.length co36)) (ds := []) (TF 0 57) (by kernel_rfl) rfl rfl ⟨(bC BK417.out 0).trans rfl, (bC BK417.out 1).trans rfl, (bC BK417.out 2).trans rfl, (bC BK417.out 3).trans rfl, (bC BK418.out 0).trans rfl, (bC BK418.out 1).trans rfl, (bC BK418.out 2).trans rfl, (bC BK418.out 3).trans rfl, (bC BK432.out 0).trans rfl, (bC BK432.out 1).trans rfl, (bC BK432.out 2).trans rfl, (bC BK432.out 3).trans rfl⟩ (fun hHeld => ?_); refine with_tabW l6_HeadEither.tab11 l6_HeadEither.bits11 (fun HT_ HW_ => ?_)
               generalize w75.drew = w76 at HO429 HO438 BK417 BK418 BK432 BK441 HB hHeld ⊢
               refine pure_ (i := 0) (N := some 77) (v := ?_) (a' := ?_) (TF 1 56) rfl rfl (any_of HT_.out (by kernel_rfl)) (fun _ _ _ h => h) (Or.inl ⟨by rfl, ?_⟩) ?_ ?_
               rotate_left; · intro w'; go_simp; with_reducible rfl
               rotate_left; · simp only [Act.put, sI, sZ, sS, i64_w, i32_w]; rfl
               refine pure_ (i := 1) (N := some 78) (v := ?_) (a' := ?_) (TF 2 55) rfl rfl (any_of HT_.out (by kernel_rfl)) (fun _ _ _ h => h) (Or.inl ⟨by rfl, ?_⟩) ?_ ?_
               rotate_left; · intro w'; go_simp; with_reducible rfl
               rotate_left; · simp only [Act.put, sI, sZ, sS, i64_w, i32_w]; rfl
               refine pure_ (i := 2) (N := some 79) (v := ?_) (a' := ?_) (TF 3 54) rfl rfl (any_of HT_.out (by kernel_rfl)) (fun _ _ _ h => h) (Or.inl ⟨by rfl, ?_⟩) ?_ ?_
               rotate_left; · intro w'; go_simp; with_reducible rfl
               rotate_left; · simp only [Act.put, sI, sZ, sS, i64_w, i32_w]; rfl
               refine pure_ (i := 3) (N := some 80) (v := ?_) (a' := ?_) (TF 4 53) rfl rfl (any_of HT_.out (by kernel_rfl)) (fun _ _ _ h => h) (Or.inl ⟨by rfl, ?_⟩) ?_ ?_
               rotate_left; · intro w'; go_simp; with_reducible rfl
               rotate_left; · simp only [Act.put, sI, sZ, sS, i64_w, i32_w]; rfl
               refine pure_ (i := 4) (N := some 81) (v := ?_) (a' := ?_) (TF 5 52) rfl rfl (any_of HT_.out (by kernel_rfl)) (fun _ _ _ h => h) (Or.inl ⟨by rfl, ?_⟩) ?_ ?_
               rotate_left; · intro w'; go_simp; with_reducible rfl
               rotate_left; · simp only [Act.put, sI, sZ, sS, i64_w, i32_w]; rfl
               refine pure_ (i := 5) (N := some 82) (v := ?_) (a' := ?_) (TF 6 51) rfl rfl (any_of HT_.out (by kernel_rfl)) (fun _ _ _ h => h) (Or.inl ⟨by rfl, ?_⟩) ?_ ?_
               rotate_left; · intro w'; go_simp; with_reducible rfl
               rotate_left; · simp only [Act.put, sI, sZ, sS, i64_w, i32_w]; rfl
               refine pure_ (i := 6) (N := some 83) (v := ?_) (a' := ?_) (TF 7 50) rfl rfl (any_of HT_.out (by kernel_rfl)) (fun _ _ _ h => h) (Or.inl ⟨by rfl, ?_⟩) ?_ ?_
               rotate_left; · intro w'; go_simp; with_reducible rfl
               rotate_left; · simp only [Act.put, sI, sZ, sS, i64_w, i32_w]; rfl
               refine pure_ (i := 7) (N := some 84) (v := ?_) (a' := ?_) (TF 8 49) rfl rfl (any_of HT_.out (by kernel_rfl)) (fun _ _ _ h => h) (Or.inl ⟨by rfl, ?_⟩) ?_ ?_
               rotate_left; · intro w'; go_simp; with_reducible rfl
               rotate_left; · simp only [Act.put, sI, sZ, sS, i64_w, i32_w]; rfl
               refine pure_ (i := 8) (N := some 85) (v := ?_) (a' := ?_) (TF 9 48) rfl rfl (any_of HT_.out (by kernel_rfl)) (fun _ _ _ h => h) (Or.inl ⟨by rfl, ?_⟩) ?_ ?_
               rotate_left; · intro w'; go_simp; with_reducible rfl
               rotate_left; · simp only [Act.put, sI, sZ, sS, i64_w, i32_w]; rfl
               refine pure_ (i := 9) (N := some 86) (v := ?_) (a' := ?_) (TF 10 47) rfl rfl (any_of HT_.out (by kernel_rfl)) (fun _ _ _ h => h) (Or.inl ⟨by rfl, ?_⟩) ?_ ?_
               rotate_left; · intro w'; go_simp; with_reducible rfl
               rotate_left; · simp only [Act.put, sI, sZ, sS, i64_w, i32_w]; rfl
               refine pure_ (i := 10) (N := some 87) (v := ?_) (a' := ?_) (TF 11 46) rfl rfl (any_of HT_.out (by kernel_rfl)) (fun _ _ _ h => h) (Or.inl ⟨by rfl, ?_⟩) ?_ ?_
               rotate_left; · intro w'; go_simp; with_reducible rfl
               rotate_left; · simp only [Act.put, sI, sZ, sS, i64_w, i32_w]; rfl
               refine pure_ (i := 11) (N := some 88) (v := ?_) (a' := ?_) (TF 12 45) rfl rfl (any_of HT_.out (by kernel_rfl)) (fun _ _ _ h => h) (Or.inl ⟨by rfl, ?_⟩) ?_ ?_
               rotate_left; · intro w'; go_simp; with_reducible rfl
               rotate_left; · simp only [Act.put, sI, sZ, sS, i64_w, i32_w]; rfl
               refine pure_ (i := 12) (N := some 89) (v := ?_) (a' := ?_) (TF 13 44) rfl rfl (any_of HT_.out (by kernel_rfl)) (fun _ _ _ h => h) (Or.inl ⟨by rfl, ?_⟩) ?_ ?_
               rotate_left; · intro w'; go_simp; with_reducible rfl
               rotate_left; · simp only [Act.put, sI, sZ, sS, i64_w, i32_w]; rfl
               refine pure_ (i := 13) (N := some 90) (v := ?_) (a' := ?_) (TF 14 43) rfl rfl (any_of HT_.out (by kernel_rfl)) (fun _ _ _ h => h) (Or.inl ⟨by rfl, ?_⟩) ?_ ?_
               rotate_left; · intro w'; go_simp; with_reducible rfl
               rotate_left; · simp only [Act.put, sI, sZ, sS, i64_w, i32_w]; rfl
               refine pure_ (i := 14) (N := some 91) (v := ?_) (a' := ?_) (TF 15 42) rfl rfl (any_of HT_.out (by kernel_rfl)) (fun _ _ _ h => h) (Or.inl ⟨by rfl, ?_⟩) ?_ ?_
               rotate_left; · intro w'; go_simp; with_reducible rfl
               rotate_left; · simp only [Act.put, sI, sZ, sS, i64_w, i32_w]; rfl
               refine pure_ (i := 15) (N := some 92) (v := ?_) (a' := ?_) (TF 16 41) rfl rfl (any_of HT_.out (by kernel_rfl)) (fun _ _ _ h => h) (Or.inl ⟨by rfl, ?_⟩) ?_ ?_
               rotate_left; · intro w'; go_simp; with_reducible rfl
               rotate_left; · simp only [Act.put, sI, sZ, sS, i64_w, i32_w]; rfl
               refine pure_ (i := 17) (N := some 94) (v := ?_) (a' := ?_) #[true, true, true, true, true, true, true, true, true, true, true, true, true, true, true, true, false, true, false, false, false, false, false, false, false, false, false, false, false, false, false, false, false, false, false, false, false, false, false, false, false, false, false, false, false, false, false, false, false, false, false, false, false, false, false, false, false] rfl rfl (any_of HT_.out (by kernel_rfl)) (fun _ _ _ h => h) (Or.inl ⟨by rfl, ?_⟩) ?_ ?_
               rotate_left; · intro w'; go_simp; with_reducible rfl
               rotate_left; · simp only [Act.put, sI, sZ, sS, i64_w, i32_w]; rfl
               refine take_ (i := 16) (N := some 93) (v := ?_) (a' := ?_) (TF 18 39) rfl rfl (take_ofW HT_.out HW_.out (by kernel_rfl)) (fun _ _ _ h => h) (Or.inl ⟨by rfl, ?_⟩) hHeld ?_ ?_
               rotate_left
               ·rintro w' ⟨s0, s1, s2, s3, s4, s5, s6, s7, s8, s9, s10, s11⟩
                go_simp
                with_reducible rfl
               rotate_left
               ·simp only [Act.put, sI, sZ, sS, i64_w, i32_w]
                rfl
               refine take_ (i := 18) (N := some 95) (v := ?_) (a' := ?_) (TF 19 38) rfl rfl (take_ofW HT_.out HW_.out (by kernel_rfl)) (fun _ _ _ h => h) (Or.inl ⟨by rfl, ?_⟩) hHeld ?_ ?_
               rotate_left
               ·rintro w' ⟨s0, s1, s2, s3, s4, s5, s6, s7, s8, s9, s10, s11⟩
                go_simp
                with_reducible rfl
               rotate_left
               ·simp only [Act.put, sI, sZ, sS, i64_w, i32_w]
                rfl
               refine pure_ (i := 19) (N := some 96) (v := ?_) (a' := ?_) (TF 20 37) rfl rfl (any_of HT_.out (by kernel_rfl)) (fun _ _ _ h => h) (Or.inl ⟨by rfl, ?_⟩) ?_ ?_
               rotate_left; · intro w'; go_simp; with_reducible rfl
               rotate_left; · simp only [Act.put, sI, sZ, sS, i64_w, i32_w]; rfl
               refine pure_ (i := 20) (N := some 97) (v := ?_) (a' := ?_) (TF 21 36) rfl rfl (any_of HT_.out (by kernel_rfl)) (fun _ _ _ h => h) (Or.inl ⟨by rfl, ?_⟩) ?_ ?_
               rotate_left; · intro w'; go_simp; with_reducible rfl
               rotate_left; · simp only [Act.put, sI, sZ, sS, i64_w, i32_w]; rfl
               refine pure_ (i := 21) (N := some 98) (v := ?_) (a' := ?_) (TF 22 35) rfl rfl (any_of HT_.out (by kernel_rfl)) (fun _ _ _ h => h) (Or.inl ⟨by rfl, ?_⟩) ?_ ?_
               rotate_left; · intro w'; go_simp; with_reducible rfl
               rotate_left; · simp only [Act.put, sI, sZ, sS, i64_w, i32_w]; rfl
               refine pure_ (i := 22) (N := some 99) (v := ?_) (a' := ?_) (TF 23 34) rfl rfl (any_of HT_.out (by kernel_rfl)) (fun _ _ _ h => h) (Or.inl ⟨by rfl, ?_⟩) ?_ ?_
               rotate_left; · intro w'; go_simp; with_reducible rfl
               rotate_left; · simp only [Act.put, sI, sZ, sS, i64_w, i32_w]; rfl
               refine pure_ (i := 23) (N := some 100) (v := ?_) (a' := ?_) (TF 24 33) rfl rfl (any_of HT_.out (by kernel_rfl)) (fun _ _ _ h => h) (Or.inl ⟨by rfl, ?_⟩) ?_ ?_
               rotate_left; · intro w'; go_simp; with_reducible rfl
               rotate_left; · simp only [Act.put, sI, sZ, sS, i64_w, i32_w]; rfl
               refine pure_ (i := 24) (N := some 101) (v := ?_) (a' := ?_) (TF 25 32) rfl rfl (any_of HT_.out (by kernel_rfl)) (fun _ _ _ h => h) (Or.inl ⟨by rfl, ?_⟩) ?_ ?_
               rotate_left; · intro w'; go_simp; with_reducible rfl
               rotate_left; · simp only [Act.put, sI, sZ, sS, i64_w, i32_w]; rfl
               refine pure_ (i := 25) (N := some 102) (v := undef) (a' := ?_) (TF 26 31) rfl rfl (any_of HT_.out (by kernel_rfl)) (fun _ _ _ h => h) (Or.inr ⟨by rfl, rfl⟩) ?_ ?_
               rotate_left
               ·simp only [Act.put, sI, sZ, sS, i64_w, i32_w]
                rfl
               refine pure_ (i := 26) (N := some 103) (v := undef) (a' := ?_) (TF 27 30) rfl rfl (any_of HT_.out (by kernel_rfl)) (fun _ _ _ h => h) (Or.inr ⟨by rfl, rfl⟩) ?_ ?_
               rotate_left
               ·simp only [Act.put, sI, sZ, sS, i64_w, i32_w]
                rfl
               refine pure_ (i := 27) (N := some 104) (v := undef) (a' := ?_) (TF 28 29) rfl rfl (any_of HT_.out (by kernel_rfl)) (fun _ _ _ h => h) (Or.inr ⟨by rfl, rfl⟩) ?_ ?_
               rotate_left
               ·simp only [Act.put, sI, sZ, sS, i64_w, i32_w]
                rfl
               refine pure_ (i := 28) (N := some 105) (v := undef) (a' := ?_) (TF 29 28) rfl rfl (any_of HT_.out (by kernel_rfl)) (fun _ _ _ h => h) (Or.inr ⟨by rfl, rfl⟩) ?_ ?_
               rotate_left
               ·simp only [Act.put, sI, sZ, sS, i64_w, i32_w]
                rfl
               refine pure_ (i := 29) (N := some 106) (v := undef) (a' := ?_) (TF 30 27) rfl rfl (any_of HT_.out (by kernel_rfl)) (fun _ _ _ h => h) (Or.inr ⟨by rfl, rfl⟩) ?_ ?_
               rotate_left
               ·simp only [Act.put, sI, sZ, sS, i64_w, i32_w]
                rfl
               refine pure_ (i := 30) (N := some 107) (v := ?_) (a' := ?_) (TF 31 26) rfl rfl (any_of HT_.out (by kernel_rfl)) (fun _ _ _ h => h) (Or.inl ⟨by rfl, ?_⟩) ?_ ?_
               rotate_left; · intro w'; go_simp; with_reducible rfl
               rotate_left; · simp only [Act.put, sI, sZ, sS, i64_w, i32_w]; rfl
               refine pure_ (i := 31) (N := some 108) (v := ?_) (a' := ?_) (TF 32 25) rfl rfl (any_of HT_.out (by kernel_rfl)) (fun _ _ _ h => h) (Or.inl ⟨by rfl, ?_⟩) ?_ ?_
               rotate_left; · intro w'; go_simp; with_reducible rfl
               rotate_left; · simp only [Act.put, sI, sZ, sS, i64_w, i32_w]; rfl
               refine pure_ (i := 32) (N := some 109) (v := ?_) (a' := ?_) (TF 33 24) rfl rfl (any_of HT_.out (by kernel_rfl)) (fun _ _ _ h => h) (Or.inl ⟨by rfl, ?_⟩) ?_ ?_
               rotate_left; · intro w'; go_simp; with_reducible rfl
               rotate_left; · simp only [Act.put, sI, sZ, sS, i64_w, i32_w]; rfl
               refine pure_ (i := 33) (N := some 110) (v := ?_) (a' := ?_) (TF 34 23) rfl rfl (any_of HT_.out (by kernel_rfl)) (fun _ _ _ h => h) (Or.inl ⟨by rfl, ?_⟩) ?_ ?_
               rotate_left; · intro w'; go_simp; with_reducible rfl
               rotate_left; · simp only [Act.put, sI, sZ, sS, i64_w, i32_w]; rfl
               refine pure_ (i := 34) (N := some 111) (v := ?_) (a' := ?_) (TF 35 22) rfl rfl (any_of HT_.out (by kernel_rfl)) (fun _ _ _ h => h) (Or.inl ⟨by rfl, ?_⟩) ?_ ?_
               rotate_left; · intro w'; go_simp; with_reducible rfl
               rotate_left; · simp only [Act.put, sI, sZ, sS, i64_w, i32_w]; rfl
               refine pure_ (i := 35) (N := some 112) (v := ?_) (a' := ?_) (TF 36 21) rfl rfl (any_of HT_.out (by kernel_rfl)) (fun _ _ _ h => h) (Or.inl ⟨by rfl, ?_⟩) ?_ ?_
               rotate_left; · intro w'; go_simp; with_reducible rfl
               rotate_left; · simp only [Act.put, sI, sZ, sS, i64_w, i32_w]; rfl
               refine take_ (i := 36) (N := some 113) (v := ?_) (a' := ?_) (TF 37 20) rfl rfl (take_ofW HT_.out HW_.out (by kernel_rfl)) (fun _ _ _ h => h) (Or.inl ⟨by rfl, ?_⟩) hHeld ?_ ?_
               rotate_left
               ·rintro w' ⟨s0, s1, s2, s3, s4, s5, s6, s7, s8, s9, s10, s11⟩
                go_simp
                with_reducible rfl
               rotate_left
               ·simp only [Act.put, sI, sZ, sS, i64_w, i32_w]
                rfl
               refine take_ (i := 37) (N := some 114) (v := ?_) (a' := ?_) (TF 38 19) rfl rfl (take_ofW HT_.out HW_.out (by kernel_rfl)) (fun _ _ _ h => h) (Or.inl ⟨by rfl, ?_⟩) hHeld ?_ ?_
               rotate_left
               ·rintro w' ⟨s0, s1, s2, s3, s4, s5, s6, s7, s8, s9, s10, s11⟩
                go_simp
                with_reducible rfl
               rotate_left
               ·simp only [Act.put, sI, sZ, sS, i64_w, i32_w]
                rfl
               refine one_ (i := 38) (N := some 115) (TF 39 18) rfl rfl (one_of HT_.out (by kernel_rfl)) (by decide) (fun K hK => ?_)
               refine goes_ Tryd.func12 (by kernel_rfl) rfl #[.agg #[.int .u64 a0_0, .int .i64 a0_1, .int .i64 a0_2, .slice A0_3 l0_3.length c0_3]] (by rfl) rfl rfl (by (try simp only [List.map_toArray, List.map_cons, List.map_nil]); first | done | rfl | (simp only [List.length_drop, List.length_take]; rfl) | (rw [wrap_sum2 (by assumption)]; rfl)) ?_
               with_reducible refine (l6_as.calls a0_0 a0_1 a0_2 (fun k_ => k_ < w.heap.size) _ _ l0_3 t456 t457 t458 t459 _ ?side1 A71.out).mono ?_
               (case side1 => exact Kd.V_mk HC0_3.out (Kd.F_below (Kd.C_F k53_heap HR0_3.out) bA))
               rintro e w77 ⟨v460, rfl, ho0, hb⟩
               refine ⟨_, rfl, ?_⟩
               have n0_ := Ax.mk (Kd.R_below (by exact Kd.R_to HO429.out) hb)
               have n1_ := Ax.mk (Kd.R_below (by exact Kd.R_to HO438.out) hb)
               have n2_ := Ax.mk (Kd.V_lower (Kd.V_mono (ok' := fun k_ => some k_ ≠ (.slice Ao36 t427.length co36 : Value).ownBlock ∧ some k_ ≠ (.slice Ao43 t436.length co43 : Value).ownBlock ∧ k_ ≠ gb417 ∧ k_ ≠ gb418 ∧ k_ ≠ gb432 ∧ k_ ≠ gb441) ho0 (fun k_ hk_ => ⟨Or.elim hk_ (fun hs_ => fun e_ => Nat.not_le.2 hs_ (Kd.R_base HO429.out k_ e_.symm)) (fun hn_ => (Kd.fresh' (Kd.R_lt (by exact Kd.R_to HO429.out)) k_ hn_)), Or.elim hk_ (fun hs_ => fun e_ => Nat.not_le.2 hs_ (Kd.R_base HO438.out k_ e_.symm)) (fun hn_ => (Kd.fresh' (Kd.R_lt (by exact Kd.R_to HO438.out)) k_ hn_)), Or.elim hk_ (fun hs_ => fun e_ => Nat.not_le.2 hs_ (by rw [e_]; exact GW417.out)) (fun hn_ => (Kd.freshB (g := gb417) (o := .cells #[.int .u64 a0_0, .int .i64 a0_1, .int .i64 a0_2, .slice A0_3 l0_3.length c0_3] 25 (0, 0)) (bT BK417.out) k_ hn_)), Or.elim hk_ (fun hs_ => fun e_ => Nat.not_le.2 hs_ (by rw [e_]; exact GW418.out)) (fun hn_ => (Kd.freshB (g := gb418) (o := .cells #[.int .u64 a1_0, .int .i64 a1_1, .int .i64 a1_2, .slice A1_3 l1_3.length c1_3] 25 (0, 0)) (bT BK418.out) k_ hn_)), Or.elim hk_ (fun hs_ => fun e_ => Nat.not_le.2 hs_ (by rw [e_]; exact GW432.out)) (fun hn_ => (Kd.freshB (g := gb432) (o := .cells #[.int .u64 t424, .int .i64 t425, .int .i64 t426, .slice Ao36 t427.length co36] 25 (0, 0)) (bT BK432.out) k_ hn_)), Or.elim hk_ (fun hs_ => fun e_ => Nat.not_le.2 hs_ (by rw [e_]; exact GW441.out)) (fun hn_ => (Kd.freshB (g := gb441) (o := .cells #[.int .u64 t433, .int .i64 t434, .int .i64 t435, .slice Ao43 t436.length co43] 25 (0, 0)) (bT BK441.out) k_ hn_))⟩)) (bS bA))
               have n3_ := Ax.mk (bB (bT BK417.out) hb)
               have n4_ := Ax.mk (bB (bT BK418.out) hb)
               have n5_ := Ax.mk (bB (bT BK432.out) hb)
               have n6_ := Ax.mk (bB (bT BK441.out) hb)
               have n7_ := Ax.mk (bP bA hb)
               clear HO429
               clear HO438
               clear BK417
               clear BK418
               clear BK432
               clear BK441
               clear HB
               have HO429 := n0_
               have HO438 := n1_
               have HO461 := n2_
               have BK417 := n3_
               have BK418 := n4_
               have BK432 := n5_
               have BK441 := n6_
               have HB := n7_
               clear n0_ n1_ n2_ n3_ n4_ n5_ n6_ n7_
               (try clear hb)
               (try clear hb2)
               (try clear hk)
               (try clear hi)
               (try clear ho0)
               obtain ⟨Ao78, co78, eo78⟩ := Kd.V_slice HO461.out
               (first | subst eo78 | (injection eo78 with f1_ f2_ f3_; have f4_ := f1_.symm; have f5_ := f3_.symm; clear f1_ f2_ f3_; subst f4_; subst f5_))
               refine hK.out _ _ ⟨(bC BK417.out 0).trans rfl, (bC BK417.out 1).trans rfl, (bC BK417.out 2).trans rfl, (bC BK417.out 3).trans rfl, (bC BK418.out 0).trans rfl, (bC BK418.out 1).trans rfl, (bC BK418.out 2).trans rfl, (bC BK418.out 3).trans rfl, (bC BK432.out 0).trans rfl, (bC BK432.out 1).trans rfl, (bC BK432.out 2).trans rfl, (bC BK432.out 3).trans rfl⟩ (fun hHeld => ?_)
               clear hK K
               refine norm_ (a' := ?_) ?_ ?_
               rotate_left
               ·show Act.put _ (some 115) _ = _
                simp only [Act.put, sI, sZ, sS, i64_w, i32_w]
                rfl
               refine one_ (i := 39) (N := some 116) (TF 40 17) rfl rfl (one_of HT_.out (by kernel_rfl)) (by decide) (fun K hK => ?_)
               refine goes_ Tryd.func20 (by kernel_rfl) rfl #[.agg #[.int .u64 t424, .int .i64 t425, .int .i64 t426, .slice Ao36 t427.length co36], .agg #[.int .u64 t456, .int .i64 t457, .int .i64 t458, .slice Ao78 t459.length co78]] (by rfl) rfl rfl (by (try simp only [List.map_toArray, List.map_cons, List.map_nil]); first | done | rfl | (simp only [List.length_drop, List.length_take]; rfl) | (rw [wrap_sum2 (by assumption)]; rfl)) ?_
               with_reducible refine (l6_same.calls kj19 t424 t425 t426 _ _ t427 t456 t457 t458 _ _ t459 true _ ?side1 ?side2 ?side3 ?side4 A72.out).mono ?_
               (case side1 => repeat (first | exact (Kd.R_reads' HO429.out).2.2 | (with_reducible refine Kd.C_alloc ?_ _) | (with_reducible refine Kd.C_drewN ?_ _) | (with_reducible refine Kd.C_drew ?_)))
               (case side2 => exact (Kd.R_reads' HO429.out).2.1)
               (case side3 => repeat (first | exact (Kd.V_reads' HO461.out).2.2 | (with_reducible refine Kd.C_alloc ?_ _) | (with_reducible refine Kd.C_drewN ?_ _) | (with_reducible refine Kd.C_drew ?_)))
               (case side4 => exact (Kd.V_reads' HO461.out).2.1)
               rintro e w79 ⟨rfl, hb⟩
               refine ⟨_, rfl, ?_⟩
               have n0_ := Ax.mk (Kd.R_below (by exact Kd.R_to HO429.out) hb)
               have n1_ := Ax.mk (Kd.R_below (by exact Kd.R_to HO438.out) hb)
               have n2_ := Ax.mk (Kd.V_below (by exact Kd.V_to HO461.out) hb)
               have n3_ := Ax.mk (bB (bT BK417.out) hb)
               have n4_ := Ax.mk (bB (bT BK418.out) hb)
               have n5_ := Ax.mk (bB (bT BK432.out) hb)
               have n6_ := Ax.mk (bB (bT BK441.out) hb)
               have n7_ := Ax.mk (bP bA hb)
               clear HO429
               clear HO438
               clear HO461
               clear BK417
               clear BK418
               clear BK432
               clear BK441
               clear HB
               have HO429 := n0_
               have HO438 := n1_
               have HO461 := n2_
               have BK417 := n3_
               have BK418 := n4_
               have BK432 := n5_
               have BK441 := n6_
               have HB := n7_
               clear n0_ n1_ n2_ n3_ n4_ n5_ n6_ n7_
               (try clear hb)
               (try clear hb2)
               (try clear hk)
               (try clear hi)
               refine hK.out _ _ ⟨(bC BK417.out 0).trans rfl, (bC BK417.out 1).trans rfl, (bC BK417.out 2).trans rfl, (bC BK417.out 3).trans rfl, (bC BK418.out 0).trans rfl, (bC BK418.out 1).trans rfl, (bC BK418.out 2).trans rfl, (bC BK418.out 3).trans rfl, (bC BK432.out 0).trans rfl, (bC BK432.out 1).trans rfl, (bC BK432.out 2).trans rfl, (bC BK432.out 3).trans rfl⟩ (fun hHeld => ?_)
               clear hK K
               refine norm_ (a' := ?_) ?_ ?_
               rotate_left
               ·show Act.put _ (some 116) _ = _
                simp only [Act.put, sI, sZ, sS, i64_w, i32_w]
                rfl
               refine pure_ (i := 40) (N := some 117) (v := ?_) (a' := ?_) (TF 41 16) rfl rfl (any_of HT_.out (by kernel_rfl)) (fun _ _ _ h => h) (Or.inl ⟨by rfl, ?_⟩) ?_ ?_
               rotate_left; · intro w'; go_simp; with_reducible rfl
               rotate_left; · simp only [Act.put, sI, sZ, sS, i64_w, i32_w]; rfl
               refine pure_ (i := 41) (N := some 118) (v := ?_) (a' := ?_) (TF 42 15) rfl rfl (any_of HT_.out (by kernel_rfl)) (fun _ _ _ h => h) (Or.inl ⟨by rfl, ?_⟩) ?_ ?_
               rotate_left; · intro w'; go_simp; with_reducible rfl
               rotate_left; · simp only [Act.put, sI, sZ, sS, i64_w, i32_w]; rfl
               refine pure_ (i := 42) (N := some 119) (v := ?_) (a' := ?_) (TF 43 14) rfl rfl (any_of HT_.out (by kernel_rfl)) (fun _ _ _ h => h) (Or.inl ⟨by rfl, ?_⟩) ?_ ?_
               rotate_left; · intro w'; go_simp; with_reducible rfl
               rotate_left; · simp only [Act.put, sI, sZ, sS, i64_w, i32_w]; rfl
               refine pure_ (i := 43) (N := some 120) (v := ?_) (a' := ?_) (TF 44 13) rfl rfl (any_of HT_.out (by kernel_rfl)) (fun _ _ _ h => h) (Or.inl ⟨by rfl, ?_⟩) ?_ ?_
               rotate_left; · intro w'; go_simp; with_reducible rfl
               rotate_left; · simp only [Act.put, sI, sZ, sS, i64_w, i32_w]; rfl
               refine pure_ (i := 44) (N := some 121) (v := ?_) (a' := ?_) (TF 45 12) rfl rfl (any_of HT_.out (by kernel_rfl)) (fun _ _ _ h => h) (Or.inl ⟨by rfl, ?_⟩) ?_ ?_
               rotate_left; · intro w'; go_simp; with_reducible rfl
               rotate_left; · simp only [Act.put, sI, sZ, sS, i64_w, i32_w]; rfl
               refine pure_ (i := 46) (N := some 123) (v := ?_) (a' := ?_) #[true, true, true, true, true, true, true, true, true, true, true, true, true, true, true, true, true, true, true, true, true, true, true, true, true, true, true, true, true, true, true, true, true, true, true, true, true, true, true, true, true, true, true, true, true, false, true, false, false, false, false, false, false, false, false, false, false] rfl rfl (any_of HT_.out (by kernel_rfl)) (fun _ _ _ h => h) (Or.inl ⟨by rfl, ?_⟩) ?_ ?_
               rotate_left; · intro w'; go_simp; with_reducible rfl
               rotate_left; · simp only [Act.put, sI, sZ, sS, i64_w, i32_w]; rfl
               refine take_ (i := 45) (N := some 122) (v := ?_) (a' := ?_) (TF 47 10) rfl rfl (take_ofW HT_.out HW_.out (by kernel_rfl)) (fun _ _ _ h => h) (Or.inl ⟨by rfl, ?_⟩) hHeld ?_ ?_
               rotate_left
               ·rintro w' ⟨s0, s1, s2, s3, s4, s5, s6, s7, s8, s9, s10, s11⟩
                go_simp
                with_reducible rfl
               rotate_left
               ·simp only [Act.put, sI, sZ, sS, i64_w, i32_w]
                rfl
               refine take_ (i := 47) (N := some 124) (v := ?_) (a' := ?_) (TF 48 9) rfl rfl (take_ofW HT_.out HW_.out (by kernel_rfl)) (fun _ _ _ h => h) (Or.inl ⟨by rfl, ?_⟩) hHeld ?_ ?_
               rotate_left
               ·rintro w' ⟨s0, s1, s2, s3, s4, s5, s6, s7, s8, s9, s10, s11⟩
                go_simp
                with_reducible rfl
               rotate_left
               ·simp only [Act.put, sI, sZ, sS, i64_w, i32_w]
                rfl
               refine pure_ (i := 48) (N := some 125) (v := ?_) (a' := ?_) (TF 49 8) rfl rfl (any_of HT_.out (by kernel_rfl)) (fun _ _ _ h => h) (Or.inl ⟨by rfl, ?_⟩) ?_ ?_
               rotate_left; · intro w'; go_simp; with_reducible rfl
               rotate_left; · simp only [Act.put, sI, sZ, sS, i64_w, i32_w]; rfl
               refine pure_ (i := 49) (N := some 126) (v := ?_) (a' := ?_) (TF 50 7) rfl rfl (any_of HT_.out (by kernel_rfl)) (fun _ _ _ h => h) (Or.inl ⟨by rfl, ?_⟩) ?_ ?_
               rotate_left; · intro w'; go_simp; with_reducible rfl
               rotate_left; · simp only [Act.put, sI, sZ, sS, i64_w, i32_w]; rfl
               refine pure_ (i := 50) (N := some 127) (v := undef) (a' := ?_) (TF 51 6) rfl rfl (any_of HT_.out (by kernel_rfl)) (fun _ _ _ h => h) (Or.inr ⟨by rfl, rfl⟩) ?_ ?_
               rotate_left
               ·simp only [Act.put, sI, sZ, sS, i64_w, i32_w]
                rfl
               refine pure_ (i := 51) (N := some 128) (v := undef) (a' := ?_) (TF 52 5) rfl rfl (any_of HT_.out (by kernel_rfl)) (fun _ _ _ h => h) (Or.inr ⟨by rfl, rfl⟩) ?_ ?_
               rotate_left
               ·simp only [Act.put, sI, sZ, sS, i64_w, i32_w]
                rfl
               refine pure_ (i := 52) (N := some 129) (v := undef) (a' := ?_) (TF 53 4) rfl rfl (any_of HT_.out (by kernel_rfl)) (fun _ _ _ h => h) (Or.inr ⟨by rfl, rfl⟩) ?_ ?_
               rotate_left
               ·simp only [Act.put, sI, sZ, sS, i64_w, i32_w]
                rfl
               refine pure_ (i := 53) (N := some 130) (v := undef) (a' := ?_) (TF 54 3) rfl rfl (any_of HT_.out (by kernel_rfl)) (fun _ _ _ h => h) (Or.inr ⟨by rfl, rfl⟩) ?_ ?_
               rotate_left
               ·simp only [Act.put, sI, sZ, sS, i64_w, i32_w]
                rfl
               refine pure_ (i := 54) (N := some 131) (v := undef) (a' := ?_) (TF 55 2) rfl rfl (any_of HT_.out (by kernel_rfl)) (fun _ _ _ h => h) (Or.inr ⟨by rfl, rfl⟩) ?_ ?_
               rotate_left
               ·simp only [Act.put, sI, sZ, sS, i64_w, i32_w]
                rfl
               refine pure_ (i := 55) (N := some 132) (v := ?_) (a' := ?_) (TF 56 1) rfl rfl (any_of HT_.out (by kernel_rfl)) (fun _ _ _ h => h) (Or.inl ⟨by rfl, ?_⟩) ?_ ?_
               rotate_left; · intro w'; go_simp; with_reducible rfl
               rotate_left; · simp only [Act.put, sI, sZ, sS, i64_w, i32_w]; rfl
               refine pure_ (i := 56) (N := some 133) (v := ?_) (a' := ?_) (TF 57 0) rfl rfl (any_of HT_.out (by kernel_rfl)) (fun _ _ _ h => h) (Or.inl ⟨by rfl, ?_⟩) ?_ ?_
               rotate_left; · intro w'; go_simp; with_reducible rfl
               rotate_left; · simp only [Act.put, sI, sZ, sS, i64_w, i32_w]; rfl
               refine done_ (done_of HT_.out (by kernel_rfl)) ?_
               try go_wp2
               go_meet
               case rel => exact ⟨_, (false), (by first | rfl | (simp; done) | (simp [*]; done)), H', ⟨by have := HJ5.out; have := HJ19.out; first | omega | exact Nat.le_refl _⟩, ⟨by apply Kd.R_to; exact HO429.out⟩, ⟨by apply Kd.R_to; exact HO438.out⟩, ⟨by refine bT ?_; exact BK417.out⟩, ⟨by refine bT ?_; exact BK418.out⟩, ⟨by refine bT ?_; exact BK432.out⟩, ⟨by refine bT ?_; exact BK441.out⟩, ⟨bA⟩⟩
              ·rw [if_neg c74] at H
               have c74b0 : (a0_0 == a1_0) = false := beq_eq_false_iff_ne.mpr c74
               have c74b1 : (a0_0 != a1_0) = true := bne_iff_ne.mpr c74
               replace H := Option.bind_eq_some_iff.mp H
               obtain ⟨⟨t463, t464, t465, t466⟩, A800, H⟩ := H
               replace H : ((l6_same.f kj19 t433 t434 t435 t436 t463 t464 t465 t466).bind fun t469 => (l6_HeadEither.j2 kj19 a2 a3 t420 t422 (!t469) a0_0 a0_1 a0_2 l0_3)) = some r := H
               have A80 := Ax.mk A800
               clear A800
               replace H := Option.bind_eq_some_iff.mp H
               obtain ⟨t469, A810, H⟩ := H
               replace H : (l6_HeadEither.j2 kj19 a2 a3 t420 t422 (!t469) a0_0 a0_1 a0_2 l0_3) = some r := H
               have A81 := Ax.mk A810
               clear A810
               have H' := Ax.mk H
               clear H
               try go_wp2
               have n0_ : Ax (Kd.R k53 53 ((((w38.setCell ⟨gb441, 0, none⟩ (.int .u64 t433)).setCell ⟨gb441, 1, none⟩ (.int .i64 t434)).setCell ⟨gb441, 2, none⟩ (.int .i64 t435)).setCell ⟨gb441, 3, none⟩ (.slice Ao43 t436.length co43)) w.heap.size (fun k_ => some k_ ≠ (.slice Ao43 t436.length co43 : Value).ownBlock) (.slice Ao36 t427.length co36) t427) := ⟨by apply Kd.R_to; exact Kd.R_mono (Kd.R_far (p := ⟨gb441, 3, none⟩) (Kd.R_far (p := ⟨gb441, 2, none⟩) (Kd.R_far (p := ⟨gb441, 1, none⟩) (Kd.R_far (p := ⟨gb441, 0, none⟩) (Kd.R_types HO429.out BK441.out (by decide)) (fun _ hk => hk.2) (.int .u64 t433)) (fun _ hk => hk.2) (.int .i64 t434)) (fun _ hk => hk.2) (.int .i64 t435)) (fun _ hk => hk.2) (.slice Ao43 t436.length co43)) (fun _ hk => hk.1.2)⟩
               have n1_ : Ax (Kd.R k53 53 ((((w38.setCell ⟨gb441, 0, none⟩ (.int .u64 t433)).setCell ⟨gb441, 1, none⟩ (.int .i64 t434)).setCell ⟨gb441, 2, none⟩ (.int .i64 t435)).setCell ⟨gb441, 3, none⟩ (.slice Ao43 t436.length co43)) w.heap.size (fun k_ => some k_ ≠ (.slice Ao36 t427.length co36 : Value).ownBlock) (.slice Ao43 t436.length co43) t436) := ⟨by apply Kd.R_to; exact Kd.R_mono (Kd.R_far (p := ⟨gb441, 3, none⟩) (Kd.R_far (p := ⟨gb441, 2, none⟩) (Kd.R_far (p := ⟨gb441, 1, none⟩) (Kd.R_far (p := ⟨gb441, 0, none⟩) (Kd.R_types HO438.out BK441.out (by decide)) (fun _ hk => hk.2) (.int .u64 t433)) (fun _ hk => hk.2) (.int .i64 t434)) (fun _ hk => hk.2) (.int .i64 t435)) (fun _ hk => hk.2) (.slice Ao43 t436.length co43)) (fun _ hk => hk.1.2)⟩
               have n2_ : Ax (((((w38.setCell ⟨gb441, 0, none⟩ (.int .u64 t433)).setCell ⟨gb441, 1, none⟩ (.int .i64 t434)).setCell ⟨gb441, 2, none⟩ (.int .i64 t435)).setCell ⟨gb441, 3, none⟩ (.slice Ao43 t436.length co43)).heap[gb417]? = some (.cells #[.int .u64 a0_0, .int .i64 a0_1, .int .i64 a0_2, .slice A0_3 l0_3.length c0_3] 25 (0, 0))) := ⟨by refine bT ?_; refine bR ?_ NB417_441.out _; refine bT ?_; refine bR ?_ NB417_441.out _; refine bT ?_; refine bR ?_ NB417_441.out _; refine bT ?_; refine bR ?_ NB417_441.out _; refine bT ?_; exact BK417.out⟩
               have n3_ : Ax (((((w38.setCell ⟨gb441, 0, none⟩ (.int .u64 t433)).setCell ⟨gb441, 1, none⟩ (.int .i64 t434)).setCell ⟨gb441, 2, none⟩ (.int .i64 t435)).setCell ⟨gb441, 3, none⟩ (.slice Ao43 t436.length co43)).heap[gb418]? = some (.cells #[.int .u64 a1_0, .int .i64 a1_1, .int .i64 a1_2, .slice A1_3 l1_3.length c1_3] 25 (0, 0))) := ⟨by refine bT ?_; refine bR ?_ NB418_441.out _; refine bT ?_; refine bR ?_ NB418_441.out _; refine bT ?_; refine bR ?_ NB418_441.out _; refine bT ?_; refine bR ?_ NB418_441.out _; refine bT ?_; exact BK418.out⟩
               have n4_ : Ax (((((w38.setCell ⟨gb441, 0, none⟩ (.int .u64 t433)).setCell ⟨gb441, 1, none⟩ (.int .i64 t434)).setCell ⟨gb441, 2, none⟩ (.int .i64 t435)).setCell ⟨gb441, 3, none⟩ (.slice Ao43 t436.length co43)).heap[gb432]? = some (.cells #[.int .u64 t424, .int .i64 t425, .int .i64 t426, .slice Ao36 t427.length co36] 25 (0, 0))) := ⟨by refine bT ?_; refine bR ?_ NB432_441.out _; refine bT ?_; refine bR ?_ NB432_441.out _; refine bT ?_; refine bR ?_ NB432_441.out _; refine bT ?_; refine bR ?_ NB432_441.out _; refine bT ?_; exact BK432.out⟩
               have n5_ : Ax (((((w38.setCell ⟨gb441, 0, none⟩ (.int .u64 t433)).setCell ⟨gb441, 1, none⟩ (.int .i64 t434)).setCell ⟨gb441, 2, none⟩ (.int .i64 t435)).setCell ⟨gb441, 3, none⟩ (.slice Ao43 t436.length co43)).heap[gb441]? = some (.cells #[.int .u64 t433, .int .i64 t434, .int .i64 t435, .slice Ao43 t436.length co43] 25 (0, 0))) := ⟨by refine bT ?_; refine bU (cs := #[.int .u64 t433, .int .i64 t434, .int .i64 t435, .slice none 0 0]) ?_ 3 _ rfl; refine bT ?_; refine bU (cs := #[.int .u64 t433, .int .i64 t434, .int .i64 0, .slice none 0 0]) ?_ 2 _ rfl; refine bT ?_; refine bU (cs := #[.int .u64 t433, .int .i64 0, .int .i64 0, .slice none 0 0]) ?_ 1 _ rfl; refine bT ?_; refine bU (cs := #[.int .u64 0, .int .i64 0, .int .i64 0, .slice none 0 0]) ?_ 0 _ rfl; refine bT ?_; exact BK441.out⟩
               have n6_ : Ax (Below w.heap.size w ((((w38.setCell ⟨gb441, 0, none⟩ (.int .u64 t433)).setCell ⟨gb441, 1, none⟩ (.int .i64 t434)).setCell ⟨gb441, 2, none⟩ (.int .i64 t435)).setCell ⟨gb441, 3, none⟩ (.slice Ao43 t436.length co43))) := ⟨bA⟩
               (try clear HO429)
               (try clear HO438)
               (try clear BK417)
               (try clear BK418)
               (try clear BK432)
               (try clear BK441)
               (try clear HB)
               generalize ((((w38.setCell ⟨gb441, 0, none⟩ (.int .u64 t433)).setCell ⟨gb441, 1, none⟩ (.int .i64 t434)).setCell ⟨gb441, 2, none⟩ (.int .i64 t435)).setCell ⟨gb441, 3, none⟩ (.slice Ao43 t436.length co43)) = w82 at n0_ n1_ n2_ n3_ n4_ n5_ n6_ ⊢
               have HO429 := n0_
               have HO438 := n1_
               have BK417 := n2_
               have BK418 := n3_
               have BK432 := n4_
               have BK441 := n5_
               have HB := n6_
               clear n0_ n1_ n2_ n3_ n4_ n5_ n6_
               have n0_ := Ax.mk (Kd.R_drew HO429.out)
               have n1_ := Ax.mk (Kd.R_drew HO438.out)
               have n2_ := Ax.mk (blk_drew BK417.out)
               have n3_ := Ax.mk (blk_drew BK418.out)
               have n4_ := Ax.mk (blk_drew BK432.out)
               have n5_ := Ax.mk (blk_drew BK441.out)
               have n6_ := Ax.mk (below_drew1 HB.out)
               clear HO429
               clear HO438
               clear BK417
               clear BK418
               clear BK432
               clear BK441
               clear HB
               have HO429 := n0_
               have HO438 := n1_
               have BK417 := n2_
               have BK418 := n3_
               have BK432 := n4_
               have BK441 := n5_
               have HB := n6_
               clear n0_ n1_ n2_ n3_ n4_ n5_ n6_
               as_aux_lemma =>
               refine start_ (n := 57) (S := fun w' => w'.cell? ⟨gb417, 0, none⟩ = some (.int .u64 a0_0) ∧ w'.cell? ⟨gb417, 1, none⟩ = some (.int .i64 a0_1) ∧ w'.cell? ⟨gb417, 2, none⟩ = some (.int .i64 a0_2) ∧ w'.cell? ⟨gb417, 3, none⟩ = some (.slice A0_3 l0_3.length c0_3) ∧ w'.cell? ⟨gb418, 0, none⟩ = some (.int .u64 a1_0) ∧ w'.cell? ⟨gb418, 1, none⟩ = some (.int .i64 a1_1) ∧ w'.cell? ⟨gb418, 2, none⟩ = some (.int .i64 a1_2) ∧ w'.cell? ⟨gb418, 3, none⟩ = some (.slice A1_3 l1_3.length c1_3) ∧ w'.cell? ⟨gb432, 0, none⟩ = some (.int .u64 t424) ∧ w'.cell? ⟨gb432, 1, none⟩ = some (.int .i64 t425) ∧ w'.cell? ⟨gb432, 2, none⟩ = some (.int .i64 t426) ∧ w'.cell? ⟨gb432, 3, none⟩ = some (.slice Ao36 t427.length co36) ∧ w'.cell? ⟨gb441, 0, none⟩ = some (.int .u64 t433) ∧ w'.cell? ⟨gb441, 1, none⟩ = some (.int .i64 t434) ∧ w'.cell? ⟨gb441, 2, none⟩ = some (.int .i64 t435) ∧ w'.cell? ⟨gb441, 3, none⟩ = some (.slice Ao43 t436.length co43)) (ds := []) (TF 0 57) (by kernel_rfl) rfl rfl ⟨(bC BK417.out 0).trans rfl, (bC BK417.out 1).trans rfl, (bC BK417.out 2).trans rfl, (bC BK417.out 3).trans rfl, (bC BK418.out 0).trans rfl, (bC BK418.out 1).trans rfl, (bC BK418.out 2).trans rfl, (bC BK418.out 3).trans rfl, (bC BK432.out 0).trans rfl, (bC BK432.out 1).trans rfl, (bC BK432.out 2).trans rfl, (bC BK432.out 3).trans rfl, (bC BK441.out 0).trans rfl, (bC BK441.out 1).trans rfl, (bC BK441.out 2).trans rfl, (bC BK441.out 3).trans rfl⟩ (fun hHeld => ?_); refine with_tabW l6_HeadEither.tab11 l6_HeadEither.bits11 (fun HT_ HW_ => ?_)
               generalize w82.drew = w83 at HO429 HO438 BK417 BK418 BK432 BK441 HB hHeld ⊢
               refine pure_ (i := 0) (N := some 77) (v := ?_) (a' := ?_) (TF 1 56) rfl rfl (any_of HT_.out (by kernel_rfl)) (fun _ _ _ h => h) (Or.inl ⟨by rfl, ?_⟩) ?_ ?_
               rotate_left; · intro w'; go_simp; with_reducible rfl
               rotate_left; · simp only [Act.put, sI, sZ, sS, i64_w, i32_w]; rfl
               refine pure_ (i := 1) (N := some 78) (v := ?_) (a' := ?_) (TF 2 55) rfl rfl (any_of HT_.out (by kernel_rfl)) (fun _ _ _ h => h) (Or.inl ⟨by rfl, ?_⟩) ?_ ?_
               rotate_left; · intro w'; go_simp; with_reducible rfl
               rotate_left; · simp only [Act.put, sI, sZ, sS, i64_w, i32_w]; rfl
               refine pure_ (i := 2) (N := some 79) (v := ?_) (a' := ?_) (TF 3 54) rfl rfl (any_of HT_.out (by kernel_rfl)) (fun _ _ _ h => h) (Or.inl ⟨by rfl, ?_⟩) ?_ ?_
               rotate_left; · intro w'; go_simp; with_reducible rfl
               rotate_left; · simp only [Act.put, sI, sZ, sS, i64_w, i32_w]; rfl
               refine pure_ (i := 3) (N := some 80) (v := ?_) (a' := ?_) (TF 4 53) rfl rfl (any_of HT_.out (by kernel_rfl)) (fun _ _ _ h => h) (Or.inl ⟨by rfl, ?_⟩) ?_ ?_
               rotate_left; · intro w'; go_simp; with_reducible rfl
               rotate_left; · simp only [Act.put, sI, sZ, sS, i64_w, i32_w]; rfl
               refine pure_ (i := 4) (N := some 81) (v := ?_) (a' := ?_) (TF 5 52) rfl rfl (any_of HT_.out (by kernel_rfl)) (fun _ _ _ h => h) (Or.inl ⟨by rfl, ?_⟩) ?_ ?_
               rotate_left; · intro w'; go_simp; with_reducible rfl
               rotate_left; · simp only [Act.put, sI, sZ, sS, i64_w, i32_w]; rfl
               refine pure_ (i := 5) (N := some 82) (v := ?_) (a' := ?_) (TF 6 51) rfl rfl (any_of HT_.out (by kernel_rfl)) (fun _ _ _ h => h) (Or.inl ⟨by rfl, ?_⟩) ?_ ?_
               rotate_left; · intro w'; go_simp; with_reducible rfl
               rotate_left; · simp only [Act.put, sI, sZ, sS, i64_w, i32_w]; rfl
               refine pure_ (i := 6) (N := some 83) (v := ?_) (a' := ?_) (TF 7 50) rfl rfl (any_of HT_.out (by kernel_rfl)) (fun _ _ _ h => h) (Or.inl ⟨by rfl, ?_⟩) ?_ ?_
               rotate_left; · intro w'; go_simp; with_reducible rfl
               rotate_left; · simp only [Act.put, sI, sZ, sS, i64_w, i32_w]; rfl
               refine pure_ (i := 7) (N := some 84) (v := ?_) (a' := ?_) (TF 8 49) rfl rfl (any_of HT_.out (by kernel_rfl)) (fun _ _ _ h => h) (Or.inl ⟨by rfl, ?_⟩) ?_ ?_
               rotate_left; · intro w'; go_simp; with_reducible rfl
               rotate_left; · simp only [Act.put, sI, sZ, sS, i64_w, i32_w]; rfl
               refine pure_ (i := 8) (N := some 85) (v := ?_) (a' := ?_) (TF 9 48) rfl rfl (any_of HT_.out (by kernel_rfl)) (fun _ _ _ h => h) (Or.inl ⟨by rfl, ?_⟩) ?_ ?_
               rotate_left; · intro w'; go_simp; with_reducible rfl
               rotate_left; · simp only [Act.put, sI, sZ, sS, i64_w, i32_w]; rfl
               refine pure_ (i := 9) (N := some 86) (v := ?_) (a' := ?_) (TF 10 47) rfl rfl (any_of HT_.out (by kernel_rfl)) (fun _ _ _ h => h) (Or.inl ⟨by rfl, ?_⟩) ?_ ?_
               rotate_left; · intro w'; go_simp; with_reducible rfl
               rotate_left; · simp only [Act.put, sI, sZ, sS, i64_w, i32_w]; rfl
               refine pure_ (i := 10) (N := some 87) (v := ?_) (a' := ?_) (TF 11 46) rfl rfl (any_of HT_.out (by kernel_rfl)) (fun _ _ _ h => h) (Or.inl ⟨by rfl, ?_⟩) ?_ ?_
               rotate_left; · intro w'; go_simp; with_reducible rfl
               rotate_left; · simp only [Act.put, sI, sZ, sS, i64_w, i32_w]; rfl
               refine pure_ (i := 11) (N := some 88) (v := ?_) (a' := ?_) (TF 12 45) rfl rfl (any_of HT_.out (by kernel_rfl)) (fun _ _ _ h => h) (Or.inl ⟨by rfl, ?_⟩) ?_ ?_
               rotate_left; · intro w'; go_simp; with_reducible rfl
               rotate_left; · simp only [Act.put, sI, sZ, sS, i64_w, i32_w]; rfl
               refine pure_ (i := 12) (N := some 89) (v := ?_) (a' := ?_) (TF 13 44) rfl rfl (any_of HT_.out (by kernel_rfl)) (fun _ _ _ h => h) (Or.inl ⟨by rfl, ?_⟩) ?_ ?_
               rotate_left; · intro w'; go_simp; with_reducible rfl
               rotate_left; · simp only [Act.put, sI, sZ, sS, i64_w, i32_w]; rfl
               refine pure_ (i := 13) (N := some 90) (v := ?_) (a' := ?_) (TF 14 43) rfl rfl (any_of HT_.out (by kernel_rfl)) (fun _ _ _ h => h) (Or.inl ⟨by rfl, ?_⟩) ?_ ?_
               rotate_left; · intro w'; go_simp; with_reducible rfl
               rotate_left; · simp only [Act.put, sI, sZ, sS, i64_w, i32_w]; rfl
               refine pure_ (i := 14) (N := some 91) (v := ?_) (a' := ?_) (TF 15 42) rfl rfl (any_of HT_.out (by kernel_rfl)) (fun _ _ _ h => h) (Or.inl ⟨by rfl, ?_⟩) ?_ ?_
               rotate_left; · intro w'; go_simp; with_reducible rfl
               rotate_left; · simp only [Act.put, sI, sZ, sS, i64_w, i32_w]; rfl
               refine pure_ (i := 15) (N := some 92) (v := ?_) (a' := ?_) (TF 16 41) rfl rfl (any_of HT_.out (by kernel_rfl)) (fun _ _ _ h => h) (Or.inl ⟨by rfl, ?_⟩) ?_ ?_
               rotate_left; · intro w'; go_simp; with_reducible rfl
               rotate_left; · simp only [Act.put, sI, sZ, sS, i64_w, i32_w]; rfl
               refine pure_ (i := 17) (N := some 94) (v := ?_) (a' := ?_) #[true, true, true, true, true, true, true, true, true, true, true, true, true, true, true, true, false, true, false, false, false, false, false, false, false, false, false, false, false, false, false, false, false, false, false, false, false, false, false, false, false, false, false, false, false, false, false, false, false, false, false, false, false, false, false, false, false] rfl rfl (any_of HT_.out (by kernel_rfl)) (fun _ _ _ h => h) (Or.inl ⟨by rfl, ?_⟩) ?_ ?_
               rotate_left; · intro w'; go_simp; with_reducible rfl
               rotate_left; · simp only [Act.put, sI, sZ, sS, i64_w, i32_w]; rfl
               refine take_ (i := 16) (N := some 93) (v := ?_) (a' := ?_) (TF 18 39) rfl rfl (take_ofW HT_.out HW_.out (by kernel_rfl)) (fun _ _ _ h => h) (Or.inl ⟨by rfl, ?_⟩) hHeld ?_ ?_
               rotate_left
               ·rintro w' ⟨s0, s1, s2, s3, s4, s5, s6, s7, s8, s9, s10, s11, s12, s13, s14, s15⟩
                go_simp
                with_reducible rfl
               rotate_left
               ·simp only [Act.put, sI, sZ, sS, i64_w, i32_w]
                rfl
               refine take_ (i := 18) (N := some 95) (v := ?_) (a' := ?_) (TF 19 38) rfl rfl (take_ofW HT_.out HW_.out (by kernel_rfl)) (fun _ _ _ h => h) (Or.inl ⟨by rfl, ?_⟩) hHeld ?_ ?_
               rotate_left
               ·rintro w' ⟨s0, s1, s2, s3, s4, s5, s6, s7, s8, s9, s10, s11, s12, s13, s14, s15⟩
                go_simp
                with_reducible rfl
               rotate_left
               ·simp only [Act.put, sI, sZ, sS, i64_w, i32_w]
                rfl
               refine pure_ (i := 19) (N := some 96) (v := ?_) (a' := ?_) (TF 20 37) rfl rfl (any_of HT_.out (by kernel_rfl)) (fun _ _ _ h => h) (Or.inl ⟨by rfl, ?_⟩) ?_ ?_
               rotate_left; · intro w'; go_simp; with_reducible rfl
               rotate_left; · simp only [Act.put, sI, sZ, sS, i64_w, i32_w]; rfl
               refine pure_ (i := 20) (N := some 97) (v := ?_) (a' := ?_) (TF 21 36) rfl rfl (any_of HT_.out (by kernel_rfl)) (fun _ _ _ h => h) (Or.inl ⟨by rfl, ?_⟩) ?_ ?_
               rotate_left; · intro w'; go_simp; with_reducible rfl
               rotate_left; · simp only [Act.put, sI, sZ, sS, i64_w, i32_w]; rfl
               refine pure_ (i := 21) (N := some 98) (v := ?_) (a' := ?_) (TF 22 35) rfl rfl (any_of HT_.out (by kernel_rfl)) (fun _ _ _ h => h) (Or.inl ⟨by rfl, ?_⟩) ?_ ?_
               rotate_left; · intro w'; go_simp; with_reducible rfl
               rotate_left; · simp only [Act.put, sI, sZ, sS, i64_w, i32_w]; rfl
               refine pure_ (i := 22) (N := some 99) (v := ?_) (a' := ?_) (TF 23 34) rfl rfl (any_of HT_.out (by kernel_rfl)) (fun _ _ _ h => h) (Or.inl ⟨by rfl, ?_⟩) ?_ ?_
               rotate_left; · intro w'; go_simp; with_reducible rfl
               rotate_left; · simp only [Act.put, sI, sZ, sS, i64_w, i32_w]; rfl
               refine pure_ (i := 23) (N := some 100) (v := ?_) (a' := ?_) (TF 24 33) rfl rfl (any_of HT_.out (by kernel_rfl)) (fun _ _ _ h => h) (Or.inl ⟨by rfl, ?_⟩) ?_ ?_
               rotate_left; · intro w'; go_simp; with_reducible rfl
               rotate_left; · simp only [Act.put, sI, sZ, sS, i64_w, i32_w]; rfl
               refine pure_ (i := 24) (N := some 101) (v := ?_) (a' := ?_) (TF 25 32) rfl rfl (any_of HT_.out (by kernel_rfl)) (fun _ _ _ h => h) (Or.inl ⟨by rfl, ?_⟩) ?_ ?_
               rotate_left; · intro w'; go_simp; with_reducible rfl
               rotate_left; · simp only [Act.put, sI, sZ, sS, i64_w, i32_w]; rfl
               refine pure_ (i := 25) (N := some 102) (v := undef) (a' := ?_) (TF 26 31) rfl rfl (any_of HT_.out (by kernel_rfl)) (fun _ _ _ h => h) (Or.inr ⟨by rfl, rfl⟩) ?_ ?_
               rotate_left
               ·simp only [Act.put, sI, sZ, sS, i64_w, i32_w]
                rfl
               refine pure_ (i := 26) (N := some 103) (v := undef) (a' := ?_) (TF 27 30) rfl rfl (any_of HT_.out (by kernel_rfl)) (fun _ _ _ h => h) (Or.inr ⟨by rfl, rfl⟩) ?_ ?_
               rotate_left
               ·simp only [Act.put, sI, sZ, sS, i64_w, i32_w]
                rfl
               refine pure_ (i := 27) (N := some 104) (v := undef) (a' := ?_) (TF 28 29) rfl rfl (any_of HT_.out (by kernel_rfl)) (fun _ _ _ h => h) (Or.inr ⟨by rfl, rfl⟩) ?_ ?_
               rotate_left
               ·simp only [Act.put, sI, sZ, sS, i64_w, i32_w]
                rfl
               refine pure_ (i := 28) (N := some 105) (v := undef) (a' := ?_) (TF 29 28) rfl rfl (any_of HT_.out (by kernel_rfl)) (fun _ _ _ h => h) (Or.inr ⟨by rfl, rfl⟩) ?_ ?_
               rotate_left
               ·simp only [Act.put, sI, sZ, sS, i64_w, i32_w]
                rfl
               refine pure_ (i := 29) (N := some 106) (v := undef) (a' := ?_) (TF 30 27) rfl rfl (any_of HT_.out (by kernel_rfl)) (fun _ _ _ h => h) (Or.inr ⟨by rfl, rfl⟩) ?_ ?_
               rotate_left
               ·simp only [Act.put, sI, sZ, sS, i64_w, i32_w]
                rfl
               refine pure_ (i := 30) (N := some 107) (v := ?_) (a' := ?_) (TF 31 26) rfl rfl (any_of HT_.out (by kernel_rfl)) (fun _ _ _ h => h) (Or.inl ⟨by rfl, ?_⟩) ?_ ?_
               rotate_left; · intro w'; go_simp; with_reducible rfl
               rotate_left; · simp only [Act.put, sI, sZ, sS, i64_w, i32_w]; rfl
               refine pure_ (i := 31) (N := some 108) (v := ?_) (a' := ?_) (TF 32 25) rfl rfl (any_of HT_.out (by kernel_rfl)) (fun _ _ _ h => h) (Or.inl ⟨by rfl, ?_⟩) ?_ ?_
               rotate_left; · intro w'; go_simp; with_reducible rfl
               rotate_left; · simp only [Act.put, sI, sZ, sS, i64_w, i32_w]; rfl
               refine pure_ (i := 32) (N := some 109) (v := ?_) (a' := ?_) (TF 33 24) rfl rfl (any_of HT_.out (by kernel_rfl)) (fun _ _ _ h => h) (Or.inl ⟨by rfl, ?_⟩) ?_ ?_
               rotate_left; · intro w'; go_simp; with_reducible rfl
               rotate_left; · simp only [Act.put, sI, sZ, sS, i64_w, i32_w]; rfl
               refine pure_ (i := 33) (N := some 110) (v := ?_) (a' := ?_) (TF 34 23) rfl rfl (any_of HT_.out (by kernel_rfl)) (fun _ _ _ h => h) (Or.inl ⟨by rfl, ?_⟩) ?_ ?_
               rotate_left; · intro w'; go_simp; with_reducible rfl
               rotate_left; · simp only [Act.put, sI, sZ, sS, i64_w, i32_w]; rfl
               refine pure_ (i := 34) (N := some 111) (v := ?_) (a' := ?_) (TF 35 22) rfl rfl (any_of HT_.out (by kernel_rfl)) (fun _ _ _ h => h) (Or.inl ⟨by rfl, ?_⟩) ?_ ?_
               rotate_left; · intro w'; go_simp; with_reducible rfl
               rotate_left; · simp only [Act.put, sI, sZ, sS, i64_w, i32_w]; rfl
               refine pure_ (i := 35) (N := some 112) (v := ?_) (a' := ?_) (TF 36 21) rfl rfl (any_of HT_.out (by kernel_rfl)) (fun _ _ _ h => h) (Or.inl ⟨by rfl, ?_⟩) ?_ ?_
               rotate_left; · intro w'; go_simp; with_reducible rfl
               rotate_left; · simp only [Act.put, sI, sZ, sS, i64_w, i32_w]; rfl
               refine take_ (i := 36) (N := some 113) (v := ?_) (a' := ?_) (TF 37 20) rfl rfl (take_ofW HT_.out HW_.out (by kernel_rfl)) (fun _ _ _ h => h) (Or.inl ⟨by rfl, ?_⟩) hHeld ?_ ?_
               rotate_left
               ·rintro w' ⟨s0, s1, s2, s3, s4, s5, s6, s7, s8, s9, s10, s11, s12, s13, s14, s15⟩
                go_simp
                with_reducible rfl
               rotate_left
               ·simp only [Act.put, sI, sZ, sS, i64_w, i32_w]
                rfl
               refine take_ (i := 37) (N := some 114) (v := ?_) (a' := ?_) (TF 38 19) rfl rfl (take_ofW HT_.out HW_.out (by kernel_rfl)) (fun _ _ _ h => h) (Or.inl ⟨by rfl, ?_⟩) hHeld ?_ ?_
               rotate_left
               ·rintro w' ⟨s0, s1, s2, s3, s4, s5, s6, s7, s8, s9, s10, s11, s12, s13, s14, s15⟩
                go_simp
                with_reducible rfl
               rotate_left
               ·simp only [Act.put, sI, sZ, sS, i64_w, i32_w]
                rfl
               refine one_ (i := 38) (N := some 115) (TF 39 18) rfl rfl (one_of HT_.out (by kernel_rfl)) (by decide) (fun K hK => ?_)
               refine goes_ Tryd.func12 (by kernel_rfl) rfl #[.agg #[.int .u64 a0_0, .int .i64 a0_1, .int .i64 a0_2, .slice A0_3 l0_3.length c0_3]] (by rfl) rfl rfl (by (try simp only [List.map_toArray, List.map_cons, List.map_nil]); first | done | rfl | (simp only [List.length_drop, List.length_take]; rfl) | (rw [wrap_sum2 (by assumption)]; rfl)) ?_
               with_reducible refine (l6_as.calls a0_0 a0_1 a0_2 (fun k_ => k_ < w.heap.size) _ _ l0_3 t456 t457 t458 t459 _ ?side1 A71.out).mono ?_
               (case side1 => exact Kd.V_mk HC0_3.out (Kd.F_below (Kd.C_F k53_heap HR0_3.out) bA))
               rintro e w84 ⟨v460, rfl, ho0, hb⟩
               refine ⟨_, rfl, ?_⟩
               have n0_ := Ax.mk (Kd.R_below (by exact Kd.R_to HO429.out) hb)
               have n1_ := Ax.mk (Kd.R_below (by exact Kd.R_to HO438.out) hb)
               have n2_ := Ax.mk (Kd.V_lower (Kd.V_mono (ok' := fun k_ => some k_ ≠ (.slice Ao36 t427.length co36 : Value).ownBlock ∧ some k_ ≠ (.slice Ao43 t436.length co43 : Value).ownBlock ∧ k_ ≠ gb417 ∧ k_ ≠ gb418 ∧ k_ ≠ gb432 ∧ k_ ≠ gb441) ho0 (fun k_ hk_ => ⟨Or.elim hk_ (fun hs_ => fun e_ => Nat.not_le.2 hs_ (Kd.R_base HO429.out k_ e_.symm)) (fun hn_ => (Kd.fresh' (Kd.R_lt (by exact Kd.R_to HO429.out)) k_ hn_)), Or.elim hk_ (fun hs_ => fun e_ => Nat.not_le.2 hs_ (Kd.R_base HO438.out k_ e_.symm)) (fun hn_ => (Kd.fresh' (Kd.R_lt (by exact Kd.R_to HO438.out)) k_ hn_)), Or.elim hk_ (fun hs_ => fun e_ => Nat.not_le.2 hs_ (by rw [e_]; exact GW417.out)) (fun hn_ => (Kd.freshB (g := gb417) (o := .cells #[.int .u64 a0_0, .int .i64 a0_1, .int .i64 a0_2, .slice A0_3 l0_3.length c0_3] 25 (0, 0)) (bT BK417.out) k_ hn_)), Or.elim hk_ (fun hs_ => fun e_ => Nat.not_le.2 hs_ (by rw [e_]; exact GW418.out)) (fun hn_ => (Kd.freshB (g := gb418) (o := .cells #[.int .u64 a1_0, .int .i64 a1_1, .int .i64 a1_2, .slice A1_3 l1_3.length c1_3] 25 (0, 0)) (bT BK418.out) k_ hn_)), Or.elim hk_ (fun hs_ => fun e_ => Nat.not_le.2 hs_ (by rw [e_]; exact GW432.out)) (fun hn_ => (Kd.freshB (g := gb432) (o := .cells #[.int .u64 t424, .int .i64 t425, .int .i64 t426, .slice Ao36 t427.length co36] 25 (0, 0)) (bT BK432.out) k_ hn_)), Or.elim hk_ (fun hs_ => fun e_ => Nat.not_le.2 hs_ (by rw [e_]; exact GW441.out)) (fun hn_ => (Kd.freshB (g := gb441) (o := .cells #[.int .u64 t433, .int .i64 t434, .int .i64 t435, .slice Ao43 t436.length co43] 25 (0, 0)) (bT BK441.out) k_ hn_))⟩)) (bS bA))
               have n3_ := Ax.mk (bB (bT BK417.out) hb)
               have n4_ := Ax.mk (bB (bT BK418.out) hb)
               have n5_ := Ax.mk (bB (bT BK432.out) hb)
               have n6_ := Ax.mk (bB (bT BK441.out) hb)
               have n7_ := Ax.mk (bP bA hb)
               clear HO429
               clear HO438
               clear BK417
               clear BK418
               clear BK432
               clear BK441
               clear HB
               have HO429 := n0_
               have HO438 := n1_
               have HO461 := n2_
               have BK417 := n3_
               have BK418 := n4_
               have BK432 := n5_
               have BK441 := n6_
               have HB := n7_
               clear n0_ n1_ n2_ n3_ n4_ n5_ n6_ n7_
               (try clear hb)
               (try clear hb2)
               (try clear hk)
               (try clear hi)
               (try clear ho0)
               obtain ⟨Ao85, co85, eo85⟩ := Kd.V_slice HO461.out
               (first | subst eo85 | (injection eo85 with f1_ f2_ f3_; have f4_ := f1_.symm; have f5_ := f3_.symm; clear f1_ f2_ f3_; subst f4_; subst f5_))
               refine hK.out _ _ ⟨(bC BK417.out 0).trans rfl, (bC BK417.out 1).trans rfl, (bC BK417.out 2).trans rfl, (bC BK417.out 3).trans rfl, (bC BK418.out 0).trans rfl, (bC BK418.out 1).trans rfl, (bC BK418.out 2).trans rfl, (bC BK418.out 3).trans rfl, (bC BK432.out 0).trans rfl, (bC BK432.out 1).trans rfl, (bC BK432.out 2).trans rfl, (bC BK432.out 3).trans rfl, (bC BK441.out 0).trans rfl, (bC BK441.out 1).trans rfl, (bC BK441.out 2).trans rfl, (bC BK441.out 3).trans rfl⟩ (fun hHeld => ?_)
               clear hK K
               refine norm_ (a' := ?_) ?_ ?_
               rotate_left
               ·show Act.put _ (some 115) _ = _
                simp only [Act.put, sI, sZ, sS, i64_w, i32_w]
                rfl
               refine one_ (i := 39) (N := some 116) (TF 40 17) rfl rfl (one_of HT_.out (by kernel_rfl)) (by decide) (fun K hK => ?_)
               refine goes_ Tryd.func20 (by kernel_rfl) rfl #[.agg #[.int .u64 t424, .int .i64 t425, .int .i64 t426, .slice Ao36 t427.length co36], .agg #[.int .u64 t456, .int .i64 t457, .int .i64 t458, .slice Ao85 t459.length co85]] (by rfl) rfl rfl (by (try simp only [List.map_toArray, List.map_cons, List.map_nil]); first | done | rfl | (simp only [List.length_drop, List.length_take]; rfl) | (rw [wrap_sum2 (by assumption)]; rfl)) ?_
               with_reducible refine (l6_same.calls kj19 t424 t425 t426 _ _ t427 t456 t457 t458 _ _ t459 true _ ?side1 ?side2 ?side3 ?side4 A72.out).mono ?_
               (case side1 => repeat (first | exact (Kd.R_reads' HO429.out).2.2 | (with_reducible refine Kd.C_alloc ?_ _) | (with_reducible refine Kd.C_drewN ?_ _) | (with_reducible refine Kd.C_drew ?_)))
               (case side2 => exact (Kd.R_reads' HO429.out).2.1)
               (case side3 => repeat (first | exact (Kd.V_reads' HO461.out).2.2 | (with_reducible refine Kd.C_alloc ?_ _) | (with_reducible refine Kd.C_drewN ?_ _) | (with_reducible refine Kd.C_drew ?_)))
               (case side4 => exact (Kd.V_reads' HO461.out).2.1)
               rintro e w86 ⟨rfl, hb⟩
               refine ⟨_, rfl, ?_⟩
               have n0_ := Ax.mk (Kd.R_below (by exact Kd.R_to HO429.out) hb)
               have n1_ := Ax.mk (Kd.R_below (by exact Kd.R_to HO438.out) hb)
               have n2_ := Ax.mk (Kd.V_below (by exact Kd.V_to HO461.out) hb)
               have n3_ := Ax.mk (bB (bT BK417.out) hb)
               have n4_ := Ax.mk (bB (bT BK418.out) hb)
               have n5_ := Ax.mk (bB (bT BK432.out) hb)
               have n6_ := Ax.mk (bB (bT BK441.out) hb)
               have n7_ := Ax.mk (bP bA hb)
               clear HO429
               clear HO438
               clear HO461
               clear BK417
               clear BK418
               clear BK432
               clear BK441
               clear HB
               have HO429 := n0_
               have HO438 := n1_
               have HO461 := n2_
               have BK417 := n3_
               have BK418 := n4_
               have BK432 := n5_
               have BK441 := n6_
               have HB := n7_
               clear n0_ n1_ n2_ n3_ n4_ n5_ n6_ n7_
               (try clear hb)
               (try clear hb2)
               (try clear hk)
               (try clear hi)
               refine hK.out _ _ ⟨(bC BK417.out 0).trans rfl, (bC BK417.out 1).trans rfl, (bC BK417.out 2).trans rfl, (bC BK417.out 3).trans rfl, (bC BK418.out 0).trans rfl, (bC BK418.out 1).trans rfl, (bC BK418.out 2).trans rfl, (bC BK418.out 3).trans rfl, (bC BK432.out 0).trans rfl, (bC BK432.out 1).trans rfl, (bC BK432.out 2).trans rfl, (bC BK432.out 3).trans rfl, (bC BK441.out 0).trans rfl, (bC BK441.out 1).trans rfl, (bC BK441.out 2).trans rfl, (bC BK441.out 3).trans rfl⟩ (fun hHeld => ?_)
               clear hK K
               refine norm_ (a' := ?_) ?_ ?_
               rotate_left
               ·show Act.put _ (some 116) _ = _
                simp only [Act.put, sI, sZ, sS, i64_w, i32_w]
                rfl
               refine pure_ (i := 40) (N := some 117) (v := ?_) (a' := ?_) (TF 41 16) rfl rfl (any_of HT_.out (by kernel_rfl)) (fun _ _ _ h => h) (Or.inl ⟨by rfl, ?_⟩) ?_ ?_
               rotate_left; · intro w'; go_simp; with_reducible rfl
               rotate_left; · simp only [Act.put, sI, sZ, sS, i64_w, i32_w]; rfl
               refine pure_ (i := 41) (N := some 118) (v := ?_) (a' := ?_) (TF 42 15) rfl rfl (any_of HT_.out (by kernel_rfl)) (fun _ _ _ h => h) (Or.inl ⟨by rfl, ?_⟩) ?_ ?_
               rotate_left; · intro w'; go_simp; with_reducible rfl
               rotate_left; · simp only [Act.put, sI, sZ, sS, i64_w, i32_w]; rfl
               refine pure_ (i := 42) (N := some 119) (v := ?_) (a' := ?_) (TF 43 14) rfl rfl (any_of HT_.out (by kernel_rfl)) (fun _ _ _ h => h) (Or.inl ⟨by rfl, ?_⟩) ?_ ?_
               rotate_left; · intro w'; go_simp; with_reducible rfl
               rotate_left; · simp only [Act.put, sI, sZ, sS, i64_w, i32_w]; rfl
               refine pure_ (i := 43) (N := some 120) (v := ?_) (a' := ?_) (TF 44 13) rfl rfl (any_of HT_.out (by kernel_rfl)) (fun _ _ _ h => h) (Or.inl ⟨by rfl, ?_⟩) ?_ ?_
               rotate_left; · intro w'; go_simp; with_reducible rfl
               rotate_left; · simp only [Act.put, sI, sZ, sS, i64_w, i32_w]; rfl
               refine pure_ (i := 44) (N := some 121) (v := ?_) (a' := ?_) (TF 45 12) rfl rfl (any_of HT_.out (by kernel_rfl)) (fun _ _ _ h => h) (Or.inl ⟨by rfl, ?_⟩) ?_ ?_
               rotate_left; · intro w'; go_simp; with_reducible rfl
               rotate_left; · simp only [Act.put, sI, sZ, sS, i64_w, i32_w]; rfl
               refine pure_ (i := 46) (N := some 123) (v := ?_) (a' := ?_) #[true, true, true, true, true, true, true, true, true, true, true, true, true, true, true, true, true, true, true, true, true, true, true, true, true, true, true, true, true, true, true, true, true, true, true, true, true, true, true, true, true, true, true, true, true, false, true, false, false, false, false, false, false, false, false, false, false] rfl rfl (any_of HT_.out (by kernel_rfl)) (fun _ _ _ h => h) (Or.inl ⟨by rfl, ?_⟩) ?_ ?_
               rotate_left; · intro w'; go_simp; with_reducible rfl
               rotate_left; · simp only [Act.put, sI, sZ, sS, i64_w, i32_w]; rfl
               refine take_ (i := 45) (N := some 122) (v := ?_) (a' := ?_) (TF 47 10) rfl rfl (take_ofW HT_.out HW_.out (by kernel_rfl)) (fun _ _ _ h => h) (Or.inl ⟨by rfl, ?_⟩) hHeld ?_ ?_
               rotate_left
               ·rintro w' ⟨s0, s1, s2, s3, s4, s5, s6, s7, s8, s9, s10, s11, s12, s13, s14, s15⟩
                go_simp
                with_reducible rfl
               rotate_left
               ·simp only [Act.put, sI, sZ, sS, i64_w, i32_w]
                rfl
               refine take_ (i := 47) (N := some 124) (v := ?_) (a' := ?_) (TF 48 9) rfl rfl (take_ofW HT_.out HW_.out (by kernel_rfl)) (fun _ _ _ h => h) (Or.inl ⟨by rfl, ?_⟩) hHeld ?_ ?_
               rotate_left
               ·rintro w' ⟨s0, s1, s2, s3, s4, s5, s6, s7, s8, s9, s10, s11, s12, s13, s14, s15⟩
                go_simp
                with_reducible rfl
               rotate_left
               ·simp only [Act.put, sI, sZ, sS, i64_w, i32_w]
                rfl
               refine pure_ (i := 48) (N := some 125) (v := ?_) (a' := ?_) (TF 49 8) rfl rfl (any_of HT_.out (by kernel_rfl)) (fun _ _ _ h => h) (Or.inl ⟨by rfl, ?_⟩) ?_ ?_
               rotate_left; · intro w'; go_simp; with_reducible rfl
               rotate_left; · simp only [Act.put, sI, sZ, sS, i64_w, i32_w]; rfl
               refine pure_ (i := 49) (N := some 126) (v := ?_) (a' := ?_) (TF 50 7) rfl rfl (any_of HT_.out (by kernel_rfl)) (fun _ _ _ h => h) (Or.inl ⟨by rfl, ?_⟩) ?_ ?_
               rotate_left; · intro w'; go_simp; with_reducible rfl
               rotate_left; · simp only [Act.put, sI, sZ, sS, i64_w, i32_w]; rfl
               refine take_ (i := 50) (N := some 127) (v := ?_) (a' := ?_) (TF 51 6) rfl rfl (take_ofW HT_.out HW_.out (by kernel_rfl)) (fun _ _ _ h => h) (Or.inl ⟨by rfl, ?_⟩) hHeld ?_ ?_
               rotate_left
               ·rintro w' ⟨s0, s1, s2, s3, s4, s5, s6, s7, s8, s9, s10, s11, s12, s13, s14, s15⟩
                go_simp
                with_reducible rfl
               rotate_left
               ·simp only [Act.put, sI, sZ, sS, i64_w, i32_w]
                rfl
               refine take_ (i := 51) (N := some 128) (v := ?_) (a' := ?_) (TF 52 5) rfl rfl (take_ofW HT_.out HW_.out (by kernel_rfl)) (fun _ _ _ h => h) (Or.inl ⟨by rfl, ?_⟩) hHeld ?_ ?_
               rotate_left
               ·rintro w' ⟨s0, s1, s2, s3, s4, s5, s6, s7, s8, s9, s10, s11, s12, s13, s14, s15⟩
                go_simp
                with_reducible rfl
               rotate_left
               ·simp only [Act.put, sI, sZ, sS, i64_w, i32_w]
                rfl
               refine one_ (i := 52) (N := some 129) (TF 53 4) rfl rfl (one_of HT_.out (by kernel_rfl)) (by decide) (fun K hK => ?_)
               refine goes_ Tryd.func12 (by kernel_rfl) rfl #[.agg #[.int .u64 t424, .int .i64 t425, .int .i64 t426, .slice Ao36 t427.length co36]] (by rfl) rfl rfl (by (try simp only [List.map_toArray, List.map_cons, List.map_nil]); first | done | rfl | (simp only [List.length_drop, List.length_take]; rfl) | (rw [wrap_sum2 (by assumption)]; rfl)) ?_
               with_reducible refine (l6_as.calls t424 t425 t426 (fun k_ => some k_ = (.slice Ao36 t427.length co36 : Value).ownBlock) _ _ t427 t463 t464 t465 t466 _ ?side1 A80.out).mono ?_
               (case side1 => exact Kd.R_V (Kd.R_tight rfl (Kd.R_types (Kd.R_types (Kd.R_types (Kd.R_types (HO429.out) BK417.out (by decide)) BK418.out (by decide)) BK432.out (by decide)) BK441.out (by decide))))
               rintro e w87 ⟨v467, rfl, ho0, hb⟩
               refine ⟨_, rfl, ?_⟩
               have n0_ := Ax.mk (Kd.R_below (by exact Kd.R_to HO429.out) hb)
               have n1_ := Ax.mk (Kd.R_below (by exact Kd.R_to HO438.out) hb)
               have n2_ := Ax.mk (Kd.V_below (by exact Kd.V_to HO461.out) hb)
               have n3_ := Ax.mk (Kd.V_lower (Kd.V_mono (ok' := fun k_ => some k_ ≠ (.slice Ao43 t436.length co43 : Value).ownBlock ∧ k_ ≠ gb417 ∧ k_ ≠ gb418 ∧ k_ ≠ gb432 ∧ k_ ≠ gb441) ho0 (fun k_ hk_ => ⟨Or.elim hk_ (fun hs_ => ((Kd.R_types (Kd.R_types (Kd.R_types (Kd.R_types (HO429.out) BK417.out (by decide)) BK418.out (by decide)) BK432.out (by decide)) BK441.out (by decide)).1 k_ hs_.symm).1.1.1.1) (fun hn_ => (Kd.fresh' (Kd.R_lt (by exact Kd.R_to HO438.out)) k_ hn_)), Or.elim hk_ (fun hs_ => ((Kd.R_types (Kd.R_types (Kd.R_types (Kd.R_types (HO429.out) BK417.out (by decide)) BK418.out (by decide)) BK432.out (by decide)) BK441.out (by decide)).1 k_ hs_.symm).1.1.1.2) (fun hn_ => (Kd.freshB (g := gb417) (o := .cells #[.int .u64 a0_0, .int .i64 a0_1, .int .i64 a0_2, .slice A0_3 l0_3.length c0_3] 25 (0, 0)) (bT BK417.out) k_ hn_)), Or.elim hk_ (fun hs_ => ((Kd.R_types (Kd.R_types (Kd.R_types (Kd.R_types (HO429.out) BK417.out (by decide)) BK418.out (by decide)) BK432.out (by decide)) BK441.out (by decide)).1 k_ hs_.symm).1.1.2) (fun hn_ => (Kd.freshB (g := gb418) (o := .cells #[.int .u64 a1_0, .int .i64 a1_1, .int .i64 a1_2, .slice A1_3 l1_3.length c1_3] 25 (0, 0)) (bT BK418.out) k_ hn_)), Or.elim hk_ (fun hs_ => ((Kd.R_types (Kd.R_types (Kd.R_types (Kd.R_types (HO429.out) BK417.out (by decide)) BK418.out (by decide)) BK432.out (by decide)) BK441.out (by decide)).1 k_ hs_.symm).1.2) (fun hn_ => (Kd.freshB (g := gb432) (o := .cells #[.int .u64 t424, .int .i64 t425, .int .i64 t426, .slice Ao36 t427.length co36] 25 (0, 0)) (bT BK432.out) k_ hn_)), Or.elim hk_ (fun hs_ => ((Kd.R_types (Kd.R_types (Kd.R_types (Kd.R_types (HO429.out) BK417.out (by decide)) BK418.out (by decide)) BK432.out (by decide)) BK441.out (by decide)).1 k_ hs_.symm).2) (fun hn_ => (Kd.freshB (g := gb441) (o := .cells #[.int .u64 t433, .int .i64 t434, .int .i64 t435, .slice Ao43 t436.length co43] 25 (0, 0)) (bT BK441.out) k_ hn_))⟩)) (bS bA))
               have n4_ := Ax.mk (bB (bT BK417.out) hb)
               have n5_ := Ax.mk (bB (bT BK418.out) hb)
               have n6_ := Ax.mk (bB (bT BK432.out) hb)
               have n7_ := Ax.mk (bB (bT BK441.out) hb)
               have n8_ := Ax.mk (bP bA hb)
               clear HO429
               clear HO438
               clear HO461
               clear BK417
               clear BK418
               clear BK432
               clear BK441
               clear HB
               have HO429 := n0_
               have HO438 := n1_
               have HO461 := n2_
               have HO468 := n3_
               have BK417 := n4_
               have BK418 := n5_
               have BK432 := n6_
               have BK441 := n7_
               have HB := n8_
               clear n0_ n1_ n2_ n3_ n4_ n5_ n6_ n7_ n8_
               (try clear hb)
               (try clear hb2)
               (try clear hk)
               (try clear hi)
               (try clear ho0)
               obtain ⟨Ao88, co88, eo88⟩ := Kd.V_slice HO468.out
               (first | subst eo88 | (injection eo88 with f1_ f2_ f3_; have f4_ := f1_.symm; have f5_ := f3_.symm; clear f1_ f2_ f3_; subst f4_; subst f5_))
               refine hK.out _ _ ⟨(bC BK417.out 0).trans rfl, (bC BK417.out 1).trans rfl, (bC BK417.out 2).trans rfl, (bC BK417.out 3).trans rfl, (bC BK418.out 0).trans rfl, (bC BK418.out 1).trans rfl, (bC BK418.out 2).trans rfl, (bC BK418.out 3).trans rfl, (bC BK432.out 0).trans rfl, (bC BK432.out 1).trans rfl, (bC BK432.out 2).trans rfl, (bC BK432.out 3).trans rfl, (bC BK441.out 0).trans rfl, (bC BK441.out 1).trans rfl, (bC BK441.out 2).trans rfl, (bC BK441.out 3).trans rfl⟩ (fun hHeld => ?_)
               clear hK K
               refine norm_ (a' := ?_) ?_ ?_
               rotate_left
               ·show Act.put _ (some 129) _ = _
                simp only [Act.put, sI, sZ, sS, i64_w, i32_w]
                rfl
               refine one_ (i := 53) (N := some 130) (TF 54 3) rfl rfl (one_of HT_.out (by kernel_rfl)) (by decide) (fun K hK => ?_)
               refine goes_ Tryd.func20 (by kernel_rfl) rfl #[.agg #[.int .u64 t433, .int .i64 t434, .int .i64 t435, .slice Ao43 t436.length co43], .agg #[.int .u64 t463, .int .i64 t464, .int .i64 t465, .slice Ao88 t466.length co88]] (by rfl) rfl rfl (by (try simp only [List.map_toArray, List.map_cons, List.map_nil]); first | done | rfl | (simp only [List.length_drop, List.length_take]; rfl) | (rw [wrap_sum2 (by assumption)]; rfl)) ?_
               with_reducible refine (l6_same.calls kj19 t433 t434 t435 _ _ t436 t463 t464 t465 _ _ t466 t469 _ ?side1 ?side2 ?side3 ?side4 A81.out).mono ?_
               (case side1 => repeat (first | exact (Kd.R_reads' HO438.out).2.2 | (with_reducible refine Kd.C_alloc ?_ _) | (with_reducible refine Kd.C_drewN ?_ _) | (with_reducible refine Kd.C_drew ?_)))
               (case side2 => exact (Kd.R_reads' HO438.out).2.1)
               (case side3 => repeat (first | exact (Kd.V_reads' HO468.out).2.2 | (with_reducible refine Kd.C_alloc ?_ _) | (with_reducible refine Kd.C_drewN ?_ _) | (with_reducible refine Kd.C_drew ?_)))
               (case side4 => exact (Kd.V_reads' HO468.out).2.1)
               rintro e w89 ⟨rfl, hb⟩
               refine ⟨_, rfl, ?_⟩
               have n0_ := Ax.mk (Kd.R_below (by exact Kd.R_to HO429.out) hb)
               have n1_ := Ax.mk (Kd.R_below (by exact Kd.R_to HO438.out) hb)
               have n2_ := Ax.mk (Kd.V_below (by exact Kd.V_to HO461.out) hb)
               have n3_ := Ax.mk (Kd.V_below (by exact Kd.V_to HO468.out) hb)
               have n4_ := Ax.mk (bB (bT BK417.out) hb)
               have n5_ := Ax.mk (bB (bT BK418.out) hb)
               have n6_ := Ax.mk (bB (bT BK432.out) hb)
               have n7_ := Ax.mk (bB (bT BK441.out) hb)
               have n8_ := Ax.mk (bP bA hb)
               clear HO429
               clear HO438
               clear HO461
               clear HO468
               clear BK417
               clear BK418
               clear BK432
               clear BK441
               clear HB
               have HO429 := n0_
               have HO438 := n1_
               have HO461 := n2_
               have HO468 := n3_
               have BK417 := n4_
               have BK418 := n5_
               have BK432 := n6_
               have BK441 := n7_
               have HB := n8_
               clear n0_ n1_ n2_ n3_ n4_ n5_ n6_ n7_ n8_
               (try clear hb)
               (try clear hb2)
               (try clear hk)
               (try clear hi)
               refine hK.out _ _ ⟨(bC BK417.out 0).trans rfl, (bC BK417.out 1).trans rfl, (bC BK417.out 2).trans rfl, (bC BK417.out 3).trans rfl, (bC BK418.out 0).trans rfl, (bC BK418.out 1).trans rfl, (bC BK418.out 2).trans rfl, (bC BK418.out 3).trans rfl, (bC BK432.out 0).trans rfl, (bC BK432.out 1).trans rfl, (bC BK432.out 2).trans rfl, (bC BK432.out 3).trans rfl, (bC BK441.out 0).trans rfl, (bC BK441.out 1).trans rfl, (bC BK441.out 2).trans rfl, (bC BK441.out 3).trans rfl⟩ (fun hHeld => ?_)
               clear hK K
               refine norm_ (a' := ?_) ?_ ?_
               rotate_left
               ·show Act.put _ (some 130) _ = _
                simp only [Act.put, sI, sZ, sS, i64_w, i32_w]
                rfl
               refine pure_ (i := 54) (N := some 131) (v := ?_) (a' := ?_) (TF 55 2) rfl rfl (any_of HT_.out (by kernel_rfl)) (fun _ _ _ h => h) (Or.inl ⟨by rfl, ?_⟩) ?_ ?_
               rotate_left; · intro w'; go_simp; with_reducible rfl
               rotate_left; · simp only [Act.put, sI, sZ, sS, i64_w, i32_w]; rfl
               refine pure_ (i := 55) (N := some 132) (v := ?_) (a' := ?_) (TF 56 1) rfl rfl (any_of HT_.out (by kernel_rfl)) (fun _ _ _ h => h) (Or.inl ⟨by rfl, ?_⟩) ?_ ?_
               rotate_left; · intro w'; go_simp; with_reducible rfl
               rotate_left; · simp only [Act.put, sI, sZ, sS, i64_w, i32_w]; rfl
               refine pure_ (i := 56) (N := some 133) (v := ?_) (a' := ?_) (TF 57 0) rfl rfl (any_of HT_.out (by kernel_rfl)) (fun _ _ _ h => h) (Or.inl ⟨by rfl, ?_⟩) ?_ ?_
               rotate_left; · intro w'; go_simp; with_reducible rfl
               rotate_left; · simp only [Act.put, sI, sZ, sS, i64_w, i32_w]; rfl
               refine done_ (done_of HT_.out (by kernel_rfl)) ?_
               try go_wp2
               go_meet
               case rel => exact ⟨_, (!t469), (by first | rfl | (simp; done) | (simp [*]; done)), H', ⟨by have := HJ5.out; have := HJ19.out; first | omega | exact Nat.le_refl _⟩, ⟨by apply Kd.R_to; exact HO429.out⟩, ⟨by apply Kd.R_to; exact HO438.out⟩, ⟨by refine bT ?_; exact BK417.out⟩, ⟨by refine bT ?_; exact BK418.out⟩, ⟨by refine bT ?_; exact BK432.out⟩, ⟨by refine bT ?_; exact BK441.out⟩, ⟨bA⟩⟩
             ·replace c73 := Bool.eq_false_iff.mpr c73
              subst c73
              have H1 : (none) = some r := by rw [if_neg (show ¬ (false = true) by decide)] at H; exact H
              clear H
              have H := H1
              clear H1
              exact absurd H (by simp)
         ·rw [if_neg c48] at H
          have c48b0 : (t440 == 0) = false := beq_eq_false_iff_ne.mpr c48
          have c48b1 : (t440 != 0) = true := bne_iff_ne.mpr c48
          exact absurd H (by simp)
        ·rw [if_neg c47] at H
         have c47b0 : (t431 == 0) = false := beq_eq_false_iff_ne.mpr c47
         have c47b1 : (t431 != 0) = true := bne_iff_ne.mpr c47
         (first | rw [c47b0] | (simp only [i64_w, i32_w]; rw [c47b0]) | skip)
         exact absurd H (by simp)
       case rest =>
        clear HC30
        try clear c1
        try clear c2
        try clear p2
        try clear c4
        try clear c7
        try clear c12
        try clear c20
        try clear c47
        try clear c47b0
        try clear c47b1
        try clear c48
        try clear c48b0
        try clear c48b1
        try clear c73
        obtain ⟨kq, x133_29, rfl, HA, HJ29, HO_433003, HO_442003, BK417, BK418, BK432, BK441, HB⟩ := hcut
        cases kq with
        | zero => exact absurd HA.out (by simp [l6_HeadEither.j2])
        | succ kj29 =>
         have H := HA.out
         clear HA
         simp only [l6_HeadEither.j2] at H
         by_cases c90 : x133_29 = true
         ·subst c90
          have H1 : (none) = some r := by rw [if_pos rfl] at H; exact H
          clear H
          have H := H1
          clear H1
          exact absurd H (by simp)
         ·replace c90 := Bool.eq_false_iff.mpr c90
          subst c90
          have H1 : (if a2 < 0 then (l6_HeadEither.j3 kj29 a2 a3 t420 t422 true a0_0 a0_1 a0_2 l0_3) else (if a2 > 480 then (l6_HeadEither.j3 kj29 a2 a3 t420 t422 true a0_0 a0_1 a0_2 l0_3) else (l6_HeadEither.j3 kj29 a2 a3 t420 t422 (a3 == 0) a0_0 a0_1 a0_2 l0_3))) = some r := by rw [if_neg (show ¬ (false = true) by decide)] at H; exact H
          clear H
          have H := H1
          clear H1
          have HC91 := Ax.mk H
          clear H
          go_upto_region 13 with (fail)
          go_cut [143] (fun v143 wc => ∃ (kq : Nat) (x143_90 : Bool), v143 = .bool x143_90 ∧ Ax (l6_HeadEither.j3 kq a2 a3 t420 t422 x143_90 a0_0 a0_1 a0_2 l0_3 = some r) ∧ Ax (kq ≤ kj29) ∧ Ax (Kd.R k53 53 wc w.heap.size (fun k_ => some k_ ≠ ((.slice Ao43 t436.length co43) : Value).ownBlock) (.slice Ao36 t427.length co36) t427) ∧ Ax (Kd.R k53 53 wc w.heap.size (fun k_ => some k_ ≠ ((.slice Ao36 t427.length co36) : Value).ownBlock) (.slice Ao43 t436.length co43) t436) ∧ Ax (wc.heap[gb417]? = some (.cells #[.int .u64 a0_0, .int .i64 a0_1, .int .i64 a0_2, (.slice A0_3 l0_3.length c0_3)] 25 (0, 0))) ∧ Ax (wc.heap[gb418]? = some (.cells #[.int .u64 a1_0, .int .i64 a1_1, .int .i64 a1_2, (.slice A1_3 l1_3.length c1_3)] 25 (0, 0))) ∧ Ax (wc.heap[gb432]? = some (.cells #[.int .u64 t424, .int .i64 t425, .int .i64 t426, (.slice Ao36 t427.length co36)] 25 (0, 0))) ∧ Ax (wc.heap[gb441]? = some (.cells #[.int .u64 t433, .int .i64 t434, .int .i64 t435, (.slice Ao43 t436.length co43)] 25 (0, 0))) ∧ Ax (Below w.heap.size w wc))
          case first =>
           have H := HC91.out
           clear HC91
           by_cases c92 : a2 < 0
           ·rw [if_pos c92] at H
            have c92b0 : decide (a2 < 0) = true := decide_eq_true c92
            clear c92
            (first | rw [c92b0] | (simp only [i64_w, i32_w]; rw [c92b0]) | skip)
            have H' := Ax.mk H
            clear H
            go_wp2
            go_meet
            case rel => exact ⟨_, (true), (by first | rfl | (simp; done) | (simp [*]; done)), H', ⟨by have := HJ5.out; have := HJ19.out; have := HJ29.out; first | omega | exact Nat.le_refl _⟩, ⟨by apply Kd.R_to; exact HO_433003.out⟩, ⟨by apply Kd.R_to; exact HO_442003.out⟩, ⟨by refine bT ?_; exact BK417.out⟩, ⟨by refine bT ?_; exact BK418.out⟩, ⟨by refine bT ?_; exact BK432.out⟩, ⟨by refine bT ?_; exact BK441.out⟩, ⟨bA⟩⟩
           ·rw [if_neg c92] at H
            have c92b0 : decide (a2 < 0) = false := decide_eq_false c92
            clear c92
            (first | rw [c92b0] | (simp only [i64_w, i32_w]; rw [c92b0]) | skip)
            by_cases c93 : a2 > 480
            ·rw [if_pos c93] at H
             have c93b0 : decide (480 < a2) = true := decide_eq_true c93
             clear c93
             have H' := Ax.mk H
             clear H
             go_wp2
             go_meet
             case rel => exact ⟨_, (true), (by first | rfl | (simp; done) | (simp [*]; done)), H', ⟨by have := HJ5.out; have := HJ19.out; have := HJ29.out; first | omega | exact Nat.le_refl _⟩, ⟨by apply Kd.R_to; exact HO_433003.out⟩, ⟨by apply Kd.R_to; exact HO_442003.out⟩, ⟨by refine bT ?_; exact BK417.out⟩, ⟨by refine bT ?_; exact BK418.out⟩, ⟨by refine bT ?_; exact BK432.out⟩, ⟨by refine bT ?_; exact BK441.out⟩, ⟨bA⟩⟩
            ·rw [if_neg c93] at H
             have c93b0 : decide (480 < a2) = false := decide_eq_false c93
             clear c93
             have H' := Ax.mk H
             clear H
             go_wp2
             go_meet
             case rel => exact ⟨_, ((a3 == 0)), (by first | rfl | (simp; done) | (simp [*]; done)), H', ⟨by have := HJ5.out; have := HJ19.out; have := HJ29.out; first | omega | exact Nat.le_refl _⟩, ⟨by apply Kd.R_to; exact HO_433003.out⟩, ⟨by apply Kd.R_to; exact HO_442003.out⟩, ⟨by refine bT ?_; exact BK417.out⟩, ⟨by refine bT ?_; exact BK418.out⟩, ⟨by refine bT ?_; exact BK432.out⟩, ⟨by refine bT ?_; exact BK441.out⟩, ⟨bA⟩⟩
          case rest =>
           clear HC91
           try clear c1
           try clear c2
           try clear p2
           try clear c4
           try clear c7
           try clear c9
           try clear c12
           try clear c20
           try clear c47
           try clear c47b0
           try clear c47b1
           try clear c48
           try clear c48b0
           try clear c48b1
           try clear c73
           try clear c90
           try clear c92
           try clear c92b0
           try clear c93
           try clear c93b0
           try clear p2
           obtain ⟨kq, x143_90, rfl, HA, HJ90, HO_433003, HO_442003, BK417, BK418, BK432, BK441, HB⟩ := hcut
           cases kq with
           | zero => exact absurd HA.out (by simp [l6_HeadEither.j3])
           | succ kj90 =>
            have H := HA.out
            clear HA
            simp only [l6_HeadEither.j3] at H
            by_cases c94 : x143_90 = true
            ·subst c94
             have H1 : (some true) = some r := by rw [if_pos rfl] at H; exact H
             clear H
             have H := H1
             clear H1
             obtain rfl := Option.some.inj H
             go_wp2
             go_ret
             exact ⟨by first | rfl | (simp [errW_none, errW_some] <;> rfl) | (simp [*, errW_none, errW_some] <;> rfl), bA⟩
            ·replace c94 := Bool.eq_false_iff.mpr c94
             subst c94
             have H1 : (if t422.size ≤ 9223372036854775807 then (l6_HeadEither.l0 kj90 a2 a3 t420 (bytesOf t422) 0 a0_0 a0_1 a0_2 l0_3) else (none)) = some r := by rw [if_neg (show ¬ (false = true) by decide)] at H; exact H
             clear H
             have H := H1
             clear H1
             by_cases c95 : t422.size ≤ 9223372036854775807
             ·rw [if_pos c95] at H
              have c95b0 := eq_true c95
              have c95b1 : decide (t422.size ≤ 9223372036854775807) = true := decide_eq_true c95
              try have c95b2 : (9223372036854775807 < t422.size) = False := eq_false (Nat.not_lt.2 c95)
              clear c95
              obtain ⟨y470, hy470⟩ : ∃ y_ : List Int, y_ = (bytesOf t422) := ⟨_, rfl⟩
              replace H : (l6_HeadEither.l0 kj90 a2 a3 t420 y470 0 a0_0 a0_1 a0_2 l0_3) = some r := by first | (rw [hy470]; with_reducible exact H) | (have H2_ := (Option.bind_some _ _).symm.trans H; rw [hy470]; with_reducible exact H2_) | (have H2_ := (Option.bind_some _ _).symm.trans H; with_reducible exact H2_) | with_reducible exact H | (rw [hy470]; exact H) | exact H
              have Ny470 := Ax.mk hy470
              clear hy470
              have H' := Ax.mk H
              clear H
              go_wp2_with (first | ((with_reducible refine gate_dst (N := 145) rfl ?_); (try (refine gate_guard (by rfl) ?_; dsimp only)); refine Kd.B_conv (Kd.int .u8) _ 5 rfl (N := 145) rfl 9 48 _ rfl t422 rfl Tryd.underlying9 Tryd.underlying48 Tryd.underlying5 (ok := fun _ => True) trivial (by first | omega | assumption | (have h_ := of_decide_eq_true (by first | (with_reducible assumption) | assumption); omega)) (Below.refl _ _) (Nat.le_refl _) ?_; intro v471 w96 ho97 hb hg_ hnew_; clear hg_ hnew_; (first | rw [← Ny470.out] at ho97 | (simp only [Int.reduceToNat] at ho97; rw [← Ny470.out] at ho97)); have n0_ := Ax.mk (Kd.R_below (by exact Kd.R_to HO_433003.out) hb); have n1_ := Ax.mk (Kd.R_below (by exact Kd.R_to HO_442003.out) hb); have n2_ := Ax.mk (Kd.B_lower ho97 (bS bA)); have n3_ := Ax.mk (bB (bT BK417.out) hb); have n4_ := Ax.mk (bB (bT BK418.out) hb); have n5_ := Ax.mk (bB (bT BK432.out) hb); have n6_ := Ax.mk (bB (bT BK441.out) hb); have n7_ := Ax.mk (bP bA hb); clear HO_433003; clear HO_442003; clear BK417; clear BK418; clear BK432; clear BK441; clear HB; have HO_433003 := n0_; have HO_442003 := n1_; have HO472 := n2_; have BK417 := n3_; have BK418 := n4_; have BK432 := n5_; have BK441 := n6_; have HB := n7_; clear n0_ n1_ n2_ n3_ n4_ n5_ n6_ n7_; clear hb ho97))
              go_loopg [22] kj90 (fun kq v22 w' => ∃ (x21_5 : List Int) (x22_5 : Int), v22 = .int .i64 x22_5 ∧ Ax (l6_HeadEither.l0 kq a2 a3 t420 x21_5 x22_5 a0_0 a0_1 a0_2 l0_3 = some r) ∧ Ax (kq ≤ kj90) ∧ Ax (Kd.B (Kd.int .u8) 5 w' w.heap.size (fun _ => True) v471 x21_5) ∧ Ax (Kd.R k53 53 w' w.heap.size (fun k_ => some k_ ≠ ((.slice Ao43 t436.length co43) : Value).ownBlock) (.slice Ao36 t427.length co36) t427) ∧ Ax (Kd.R k53 53 w' w.heap.size (fun k_ => some k_ ≠ ((.slice Ao36 t427.length co36) : Value).ownBlock) (.slice Ao43 t436.length co43) t436) ∧ Ax (w'.heap[gb417]? = some (.cells #[.int .u64 a0_0, .int .i64 a0_1, .int .i64 a0_2, (.slice A0_3 l0_3.length c0_3)] 25 (0, 0))) ∧ Ax (w'.heap[gb418]? = some (.cells #[.int .u64 a1_0, .int .i64 a1_1, .int .i64 a1_2, (.slice A1_3 l1_3.length c1_3)] 25 (0, 0))) ∧ Ax (w'.heap[gb432]? = some (.cells #[.int .u64 t424, .int .i64 t425, .int .i64 t426, (.slice Ao36 t427.length co36)] 25 (0, 0))) ∧ Ax (w'.heap[gb441]? = some (.cells #[.int .u64 t433, .int .i64 t434, .int .i64 t435, (.slice Ao43 t436.length co43)] 25 (0, 0))) ∧ Ax (Below w.heap.size w w'))
              case atStart => exact ⟨(y470), (0), (by first | rfl | (simp; done) | (simp [*]; done)), H', ⟨Nat.le_refl _⟩, ⟨by (with_reducible repeat (first | apply Kd.B_alloc | apply Kd.B_drewN | apply Kd.B_drew)); exact HO472.out⟩, ⟨by apply Kd.R_to; exact HO_433003.out⟩, ⟨by apply Kd.R_to; exact HO_442003.out⟩, ⟨by refine bT ?_; exact BK417.out⟩, ⟨by refine bT ?_; exact BK418.out⟩, ⟨by refine bT ?_; exact BK432.out⟩, ⟨by refine bT ?_; exact BK441.out⟩, ⟨bA⟩⟩
              case round =>
               clear H'
               try clear c1
               try clear c2
               try clear p2
               try clear c4
               try clear c7
               try clear c9
               try clear c12
               try clear c20
               try clear c47
               try clear c47b0
               try clear c47b1
               try clear c48
               try clear c48b0
               try clear c48b1
               try clear c73
               try clear c90
               try clear c92
               try clear c92b0
               try clear c93
               try clear c93b0
               try clear c94
               try clear c95
               try clear c95b0
               try clear c95b1
               try clear c95b2
               try clear p2
               obtain ⟨x21_5, x22_5, rfl, HA, HK5, HO_21, HO_433003, HO_442003, BK417, BK418, BK432, BK441, HB⟩ := hrel
               cases gk with
               | zero => exact absurd HA.out (by simp [l6_HeadEither.l0])
               | succ k5 =>
                have H := HA.out
                clear HA
                simp only [l6_HeadEither.l0] at H
                by_cases c98 : x22_5 < 32
                ·rw [if_pos c98] at H
                 have c98b0 : decide (x22_5 < 32) = true := decide_eq_true c98
                 clear c98
                 by_cases c99 : 0 ≤ x22_5
                 ·rw [if_pos c99] at H
                  have c99b0 := eq_true c99
                  have c99b1 : decide (0 ≤ x22_5) = true := decide_eq_true c99
                  clear c99
                  obtain ⟨ji100, hji100⟩ : ∃ j_ : Int, (shr .u32 a3 x22_5) = j_ := ⟨_, rfl⟩
                  replace H : (if (Go.bits .and .u32 (ji100) 1) = 1 then (if 0 ≤ (wrap64 (Int.tdiv (wrap64 (a2 + x22_5)) 8)) then (if (wrap64 (Int.tdiv (wrap64 (a2 + x22_5)) 8)) < (x21_5.length : Int) then (if 0 ≤ (Int.tmod (wrap64 (a2 + x22_5)) 8) then (l6_HeadEither.l0 k5 a2 a3 t420 (x21_5.set ((wrap64 (Int.tdiv (wrap64 (a2 + x22_5)) 8)) : Int).toNat (Go.bits .xor .u8 (rd x21_5 (wrap64 (Int.tdiv (wrap64 (a2 + x22_5)) 8))) (shl .u8 1 (Int.tmod (wrap64 (a2 + x22_5)) 8)))) (wrap64 (x22_5 + 1)) a0_0 a0_1 a0_2 l0_3) else (none)) else (none)) else (none)) else (l6_HeadEither.l0 k5 a2 a3 t420 x21_5 (wrap64 (x22_5 + 1)) a0_0 a0_1 a0_2 l0_3)) = some r := by first | (rw [hji100] at H; exact H) | (simp only [hji100] at H ⊢; exact H)
                  have hji100_ : (a3 / 2 ^ min x22_5.toNat 32) = ji100 := hji100
                  have hji100z : x22_5 ≤ 32 → (a3 / 2 ^ x22_5.toNat) = ji100 := shr_small hji100
                  by_cases c101 : (Go.bits .and .u32 (ji100) 1) = 1
                  ·rw [if_pos c101] at H
                   have c101b0 : ((Go.bits .and .u32 (ji100) 1) == 1) = true := beq_iff_eq.mpr c101
                   have c101b1 : ((Go.bits .and .u32 (ji100) 1) != 1) = false := bne_eq_false_iff_eq.mpr c101
                   clear c101
                   obtain ⟨ji102, hji102⟩ : ∃ j_ : Int, (wrap64 (Int.tdiv (wrap64 (a2 + x22_5)) 8)) = j_ := ⟨_, rfl⟩
                   replace H : (if 0 ≤ (ji102) then (if (ji102) < (x21_5.length : Int) then (if 0 ≤ (Int.tmod (wrap64 (a2 + x22_5)) 8) then (l6_HeadEither.l0 k5 a2 a3 t420 (x21_5.set ((ji102) : Int).toNat (Go.bits .xor .u8 (rd x21_5 (ji102)) (shl .u8 1 (Int.tmod (wrap64 (a2 + x22_5)) 8)))) (wrap64 (x22_5 + 1)) a0_0 a0_1 a0_2 l0_3) else (none)) else (none)) else (none)) = some r := by first | (rw [hji102] at H; exact H) | (simp only [hji102] at H ⊢; exact H)
                   have hji102w : (IntKind.i64.wrap (Int.tdiv (wrap64 (a2 + x22_5)) 8)) = ji102 := (i64_w _).trans hji102
                   by_cases c103 : 0 ≤ (ji102)
                   ·rw [if_pos c103] at H
                    have c103b0 : decide (0 ≤ (ji102)) = true := decide_eq_true c103
                    clear c103
                    by_cases c104 : (ji102) < (x21_5.length : Int)
                    ·rw [if_pos c104] at H
                     have c104b0 : decide ((ji102) < (x21_5.length : Int)) = true := decide_eq_true c104
                     clear c104
                     obtain ⟨ji105, hji105⟩ : ∃ j_ : Int, (Int.tmod (wrap64 (a2 + x22_5)) 8) = j_ := ⟨_, rfl⟩
                     replace H : (if 0 ≤ (ji105) then (l6_HeadEither.l0 k5 a2 a3 t420 (x21_5.set ((ji102) : Int).toNat (Go.bits .xor .u8 (rd x21_5 (ji102)) (shl .u8 1 (ji105)))) (wrap64 (x22_5 + 1)) a0_0 a0_1 a0_2 l0_3) else (none)) = some r := by first | (rw [hji105] at H; exact H) | (simp only [hji105] at H ⊢; exact H)
                     by_cases c106 : 0 ≤ (ji105)
                     ·rw [if_pos c106] at H
                      have c106b0 := eq_true c106
                      have c106b1 : decide (0 ≤ (ji105)) = true := decide_eq_true c106
                      clear c106
                      obtain ⟨ji107, hji107⟩ : ∃ j_ : Int, (shl .u8 1 (ji105)) = j_ := ⟨_, rfl⟩
                      replace H : (l6_HeadEither.l0 k5 a2 a3 t420 (x21_5.set ((ji102) : Int).toNat (Go.bits .xor .u8 (rd x21_5 (ji102)) (ji107))) (wrap64 (x22_5 + 1)) a0_0 a0_1 a0_2 l0_3) = some r := by first | (rw [hji107] at H; exact H) | (simp only [hji107] at H ⊢; exact H)
                      have hji107_ : (IntKind.u8.wrap (1 * 2 ^ min (ji105).toNat 8)) = ji107 := hji107
                      have hji107z : (ji105) ≤ 8 → (IntKind.u8.wrap (1 * 2 ^ (ji105).toNat)) = ji107 := shl_small hji107
                      have hji107u : (IntKind.u8.wrap (2 ^ min (ji105).toNat 8)) = ji107 := by have h_ := hji107_; rw [Int.one_mul] at h_; exact h_
                      have hji107v : (ji105) ≤ 8 → (IntKind.u8.wrap (2 ^ (ji105).toNat)) = ji107 := fun hle_ => by have h_ := hji107z hle_; rw [Int.one_mul] at h_; exact h_
                      obtain ⟨y474, hy474⟩ : ∃ y_ : List Int, y_ = (x21_5.set ((ji102) : Int).toNat (Go.bits .xor .u8 (rd x21_5 (ji102)) (ji107))) := ⟨_, rfl⟩
                      replace H : (l6_HeadEither.l0 k5 a2 a3 t420 y474 (wrap64 (x22_5 + 1)) a0_0 a0_1 a0_2 l0_3) = some r := by first | (rw [hy474]; with_reducible exact H) | (have H2_ := (Option.bind_some _ _).symm.trans H; rw [hy474]; with_reducible exact H2_) | (have H2_ := (Option.bind_some _ _).symm.trans H; with_reducible exact H2_) | with_reducible exact H | (rw [hy474]; exact H) | exact H
                      have Ny474 := Ax.mk hy474
                      clear hy474
                      have H' := Ax.mk H
                      clear H
                      try go_wp2
                      have n0_ := Ax.mk (Kd.B_drew HO_21.out)
                      have n1_ := Ax.mk (Kd.R_drew HO_433003.out)
                      have n2_ := Ax.mk (Kd.R_drew HO_442003.out)
                      have n3_ := Ax.mk (blk_drew BK417.out)
                      have n4_ := Ax.mk (blk_drew BK418.out)
                      have n5_ := Ax.mk (blk_drew BK432.out)
                      have n6_ := Ax.mk (blk_drew BK441.out)
                      have n7_ := Ax.mk (below_drew1 HB.out)
                      clear HO_21
                      clear HO_433003
                      clear HO_442003
                      clear BK417
                      clear BK418
                      clear BK432
                      clear BK441
                      clear HB
                      have HO_21 := n0_
                      have HO_433003 := n1_
                      have HO_442003 := n2_
                      have BK417 := n3_
                      have BK418 := n4_
                      have BK432 := n5_
                      have BK441 := n6_
                      have HB := n7_
                      clear n0_ n1_ n2_ n3_ n4_ n5_ n6_ n7_
                      obtain ⟨Ao110, co110, eo110⟩ := Kd.B_slice HO_21.out
                      (first | subst eo110 | (injection eo110 with f1_ f2_ f3_; have f4_ := f1_.symm; have f5_ := f3_.symm; clear f1_ f2_ f3_; subst f4_; subst f5_))
                      have p473 : 0 ≤ ((ji102) : Int) := of_decide_eq_true (by first | (with_reducible assumption) | assumption)
                      have q473 : (ji102) < (x21_5.length : Int) := of_decide_eq_true (by first | (with_reducible assumption) | assumption)
                      obtain ⟨ad473, e473, hx473_0⟩ := Kd.at_int (Kd.B_reads' HO_21.out).2.2 (ji102) p473 q473
                      cases e473
                      replace p473 := eq_true p473
                      replace q473 := eq_true q473
                      have p108 : 0 ≤ ((ji102) : Int) := of_decide_eq_true (by first | (with_reducible assumption) | assumption)
                      have q108 : ((ji102) : Int) < ((x21_5.length : Int) : Int) := of_decide_eq_true (by first | (with_reducible assumption) | assumption)
                      obtain ⟨go108, co108, eo108, gb108, gl108, cl108, HG108⟩ := Kd.B_form HO_21.out (by omega)
                      (first | cases eo108 | (injection eo108 with ea_ en_ ec_; (first | subst ea_ | (injection ea_ with ea_; subst ea_)); subst ec_; clear en_))
                      have GB108 := Ax.mk gb108
                      have GG108 := Ax.mk HG108
                      clear gb108 gl108 HG108
                      (first | simp only [add_plain] at hx473_0 | skip)
                      obtain ⟨hx108_0, hf108_0⟩ := Kd.B_celln 0 HO_21.out ((ji102) : Int) p108 q108
                      replace p108 := eq_true p108
                      replace q108 := eq_true q108
                      have HP111 := Kd.B_putn HO_21.out ((ji102) : Int) (Go.bits .xor .u8 (rd x21_5 (ji102)) (ji107))
                      rw [← Ny474.out] at HP111
                      have HQ111 := Ax.mk HP111
                      clear HP111
                      refine start_ (n := 20) (S := fun w' => w'.cell? ⟨go108, ((ji102)).toNat, none⟩ = some (.int .u8 (rd x21_5 (ji102)))) (ds := [19]) (TF 0 20) (by kernel_rfl) rfl rfl (hx473_0) (fun hHeld => ?_); refine with_tabW l6_HeadEither.tab20 l6_HeadEither.bits20 (fun HT_ HW_ => ?_)
                      generalize wr.drew = w109 at HO_21 HO_433003 HO_442003 BK417 BK418 BK432 BK441 HB GG108 HQ111 hf108_0 hx108_0 hx473_0 hHeld ⊢
                      refine pure_ (i := 0) (N := some 155) (v := ?_) (a' := ?_) (TF 1 19) rfl rfl (any_of HT_.out (by kernel_rfl)) (fun _ _ _ h => h) (Or.inl ⟨by rfl, ?_⟩) ?_ ?_
                      rotate_left; · intro w'; go_simp; with_reducible rfl
                      rotate_left; · simp only [Act.put, sI, sZ, sS, i64_w, i32_w]; rfl
                      refine pure_ (i := 1) (N := some 156) (v := ?_) (a' := ?_) (TF 2 18) rfl rfl (any_of HT_.out (by kernel_rfl)) (fun _ _ _ h => h) (Or.inl ⟨by rfl, ?_⟩) ?_ ?_
                      rotate_left; · intro w'; go_simp; with_reducible rfl
                      rotate_left; · simp only [Act.put, sI, sZ, sS, i64_w, i32_w]; rfl
                      refine pure_ (i := 2) (N := some 157) (v := ?_) (a' := ?_) (TF 3 17) rfl rfl (any_of HT_.out (by kernel_rfl)) (fun _ _ _ h => h) (Or.inl ⟨by rfl, ?_⟩) ?_ ?_
                      rotate_left; · intro w'; go_simp; with_reducible rfl
                      rotate_left; · simp only [Act.put, sI, sZ, sS, i64_w, i32_w]; rfl
                      refine pure_ (i := 3) (N := some 158) (v := ?_) (a' := ?_) (TF 4 16) rfl rfl (any_of HT_.out (by kernel_rfl)) (fun _ _ _ h => h) (Or.inl ⟨by rfl, ?_⟩) ?_ ?_
                      rotate_left; · intro w'; go_simp; with_reducible rfl
                      rotate_left; · simp only [Act.put, sI, sZ, sS, i64_w, i32_w]; rfl
                      refine pure_ (i := 4) (N := some 159) (v := ?_) (a' := ?_) (TF 5 15) rfl rfl (any_of HT_.out (by kernel_rfl)) (fun _ _ _ h => h) (Or.inl ⟨by rfl, ?_⟩) ?_ ?_
                      rotate_left; · intro w'; go_simp; with_reducible rfl
                      rotate_left; · simp only [Act.put, sI, sZ, sS, i64_w, i32_w]; rfl
                      refine pure_ (i := 5) (N := some 160) (v := ?_) (a' := ?_) (TF 6 14) rfl rfl (any_of HT_.out (by kernel_rfl)) (fun _ _ _ h => h) (Or.inl ⟨by rfl, ?_⟩) ?_ ?_
                      rotate_left; · intro w'; go_simp; with_reducible rfl
                      rotate_left; · simp only [Act.put, sI, sZ, sS, i64_w, i32_w]; rfl
                      refine pure_ (i := 6) (N := some 161) (v := ?_) (a' := ?_) (TF 7 13) rfl rfl (any_of HT_.out (by kernel_rfl)) (fun _ _ _ h => h) (Or.inl ⟨by rfl, ?_⟩) ?_ ?_
                      rotate_left; · intro w'; go_simp; with_reducible rfl
                      rotate_left; · simp only [Act.put, sI, sZ, sS, i64_w, i32_w]; rfl
                      refine pure_ (i := 7) (N := some 162) (v := ?_) (a' := ?_) (TF 8 12) rfl rfl (any_of HT_.out (by kernel_rfl)) (fun _ _ _ h => h) (Or.inl ⟨by rfl, ?_⟩) ?_ ?_
                      rotate_left; · intro w'; go_simp; with_reducible rfl
                      rotate_left; · simp only [Act.put, sI, sZ, sS, i64_w, i32_w]; rfl
                      refine pure_ (i := 8) (N := some 163) (v := ?_) (a' := ?_) (TF 9 11) rfl rfl (any_of HT_.out (by kernel_rfl)) (fun _ _ _ h => h) (Or.inl ⟨by rfl, ?_⟩) ?_ ?_
                      rotate_left; · intro w'; go_simp; with_reducible rfl
                      rotate_left; · simp only [Act.put, sI, sZ, sS, i64_w, i32_w]; rfl
                      refine pure_ (i := 9) (N := some 164) (v := ?_) (a' := ?_) (TF 10 10) rfl rfl (any_of HT_.out (by kernel_rfl)) (fun _ _ _ h => h) (Or.inl ⟨by rfl, ?_⟩) ?_ ?_
                      rotate_left; · intro w'; go_simp; with_reducible rfl
                      rotate_left; · simp only [Act.put, sI, sZ, sS, i64_w, i32_w]; rfl
                      refine pure_ (i := 10) (N := some 165) (v := ?_) (a' := ?_) (TF 11 9) rfl rfl (any_of HT_.out (by kernel_rfl)) (fun _ _ _ h => h) (Or.inl ⟨by rfl, ?_⟩) ?_ ?_
                      rotate_left; · intro w'; go_simp; with_reducible rfl
                      rotate_left; · simp only [Act.put, sI, sZ, sS, i64_w, i32_w]; rfl
                      refine pure_ (i := 12) (N := some 167) (v := ?_) (a' := ?_) #[true, true, true, true, true, true, true, true, true, true, true, false, true, false, false, false, false, false, false, false] rfl rfl (any_of HT_.out (by kernel_rfl)) (fun _ _ _ h => h) (Or.inl ⟨by rfl, ?_⟩) ?_ ?_
                      rotate_left; · intro w'; go_simp; with_reducible rfl
                      rotate_left; · simp only [Act.put, sI, sZ, sS, i64_w, i32_w]; rfl
                      refine pure_ (i := 13) (N := some 168) (v := ?_) (a' := ?_) #[true, true, true, true, true, true, true, true, true, true, true, false, true, true, false, false, false, false, false, false] rfl rfl (any_of HT_.out (by kernel_rfl)) (fun _ _ _ h => h) (Or.inl ⟨by rfl, ?_⟩) ?_ ?_
                      rotate_left; · intro w'; go_simp; with_reducible rfl
                      rotate_left; · simp only [Act.put, sI, sZ, sS, i64_w, i32_w]; rfl
                      refine pure_ (i := 14) (N := some 169) (v := ?_) (a' := ?_) #[true, true, true, true, true, true, true, true, true, true, true, false, true, true, true, false, false, false, false, false] rfl rfl (any_of HT_.out (by kernel_rfl)) (fun _ _ _ h => h) (Or.inl ⟨by rfl, ?_⟩) ?_ ?_
                      rotate_left; · intro w'; go_simp; with_reducible rfl
                      rotate_left; · simp only [Act.put, sI, sZ, sS, i64_w, i32_w]; rfl
                      refine pure_ (i := 15) (N := some 170) (v := ?_) (a' := ?_) #[true, true, true, true, true, true, true, true, true, true, true, false, true, true, true, true, false, false, false, false] rfl rfl (any_of HT_.out (by kernel_rfl)) (fun _ _ _ h => h) (Or.inl ⟨by rfl, ?_⟩) ?_ ?_
                      rotate_left; · intro w'; go_simp; with_reducible rfl
                      rotate_left; · simp only [Act.put, sI, sZ, sS, i64_w, i32_w]; rfl
                      refine pure_ (i := 16) (N := some 171) (v := ?_) (a' := ?_) #[true, true, true, true, true, true, true, true, true, true, true, false, true, true, true, true, true, false, false, false] rfl rfl (any_of HT_.out (by kernel_rfl)) (fun _ _ _ h => h) (Or.inl ⟨by rfl, ?_⟩) ?_ ?_
                      rotate_left; · intro w'; go_simp; with_reducible rfl
                      rotate_left; · simp only [Act.put, sI, sZ, sS, i64_w, i32_w]; rfl
                      refine take_ (i := 11) (N := some 166) (v := ?_) (a' := ?_) (TF 17 3) rfl rfl (take_ofW HT_.out HW_.out (by kernel_rfl)) (fun _ _ _ h => h) (Or.inl ⟨by rfl, ?_⟩) hHeld ?_ ?_
                      rotate_left
                      ·intro w' s0
                       go_simp
                       with_reducible rfl
                      rotate_left
                      ·simp only [Act.put, sI, sZ, sS, i64_w, i32_w]
                       rfl
                      refine pure_ (i := 17) (N := some 172) (v := ?_) (a' := ?_) (TF 18 2) rfl rfl (any_of HT_.out (by kernel_rfl)) (fun _ _ _ h => h) (Or.inl ⟨by rfl, ?_⟩) ?_ ?_
                      rotate_left; · intro w'; go_simp; with_reducible rfl
                      rotate_left; · simp only [Act.put, sI, sZ, sS, i64_w, i32_w]; rfl
                      refine pure_ (i := 18) (N := some 173) (v := ?_) (a' := ?_) (TF 19 1) rfl rfl (any_of HT_.out (by kernel_rfl)) (fun _ _ _ h => h) (Or.inl ⟨by rfl, ?_⟩) ?_ ?_
                      rotate_left; · intro w'; go_simp; with_reducible rfl
                      rotate_left; · simp only [Act.put, sI, sZ, sS, i64_w, i32_w]; rfl
                      refine last_ (i := 19) (N := none) (TF 20 0) rfl rfl (one_of HT_.out (by kernel_rfl)) (by decide) (fun K hK => ?_)
                      refine skip_ (w1 := ?_) (by rfl) rfl ?_ ?_
                      rotate_left
                      ·go_simp
                       rfl
                      refine hK.out _ _ ?_
                      clear hK K
                      refine done_ (done_of HT_.out (by kernel_rfl)) ?_
                      try go_wp2
                      go_roundg k5
                      case measure => have := HJ5.out; have := HJ19.out; have := HJ29.out; have := HJ90.out; have := HK5.out; omega
                      case rel => exact ⟨(y474), (wrap64 (x22_5 + 1)), (by first | rfl | (simp; done) | (simp [*]; done)), H', ⟨by have := HJ5.out; have := HJ19.out; have := HJ29.out; have := HJ90.out; have := HK5.out; omega⟩, ⟨by (with_reducible repeat (first | apply Kd.B_alloc | apply Kd.B_drewN | apply Kd.B_drew)); exact HQ111.out⟩, ⟨by apply Kd.R_to; exact Kd.R_mono (Kd.R_far (p := ⟨go108, ((ji102) : Int).toNat, none⟩) (Kd.R_typesB HO_433003.out GG108.out (by decide)) (fun _ hk => hk.2) (.int .u8 (Go.bits .xor .u8 (rd x21_5 (ji102)) (ji107)))) (fun _ hk => hk.1)⟩, ⟨by apply Kd.R_to; exact Kd.R_mono (Kd.R_far (p := ⟨go108, ((ji102) : Int).toNat, none⟩) (Kd.R_typesB HO_442003.out GG108.out (by decide)) (fun _ hk => hk.2) (.int .u8 (Go.bits .xor .u8 (rd x21_5 (ji102)) (ji107)))) (fun _ hk => hk.1)⟩, ⟨by refine bT ?_; refine bR ?_ (by have h_ := Kd.B_ne HO_21.out BK417.out (by decide); intro e_; exact h_ (by rw [e_]; rfl)) _; refine bT ?_; exact BK417.out⟩, ⟨by refine bT ?_; refine bR ?_ (by have h_ := Kd.B_ne HO_21.out BK418.out (by decide); intro e_; exact h_ (by rw [e_]; rfl)) _; refine bT ?_; exact BK418.out⟩, ⟨by refine bT ?_; refine bR ?_ (by have h_ := Kd.B_ne HO_21.out BK432.out (by decide); intro e_; exact h_ (by rw [e_]; rfl)) _; refine bT ?_; exact BK432.out⟩, ⟨by refine bT ?_; refine bR ?_ (by have h_ := Kd.B_ne HO_21.out BK441.out (by decide); intro e_; exact h_ (by rw [e_]; rfl)) _; refine bT ?_; exact BK441.out⟩, ⟨by repeat (first | (with_reducible first | exact HB.out | apply below_alloc | apply pw_below_drewN | apply below_drew1 | refine below_set ?_ GB108.out | refine below_set ?_ GE417.out | refine below_set ?_ GE418.out | refine below_set ?_ GE432.out | refine below_set ?_ GE441.out) | exact HB.out)⟩⟩
                     ·rw [if_neg c106] at H
                      exact absurd H (by simp)
                    ·rw [if_neg c104] at H
                     exact absurd H (by simp)
                   ·rw [if_neg c103] at H
                    exact absurd H (by simp)
                  ·rw [if_neg c101] at H
                   have c101b0 : ((Go.bits .and .u32 (ji100) 1) == 1) = false := beq_eq_false_iff_ne.mpr c101
                   have c101b1 : ((Go.bits .and .u32 (ji100) 1) != 1) = true := bne_iff_ne.mpr c101
                   have H' := Ax.mk H
                   clear H
                   go_wp2
                   go_roundg k5
                   case measure => have := HJ5.out; have := HJ19.out; have := HJ29.out; have := HJ90.out; have := HK5.out; omega
                   case rel => exact ⟨(x21_5), (wrap64 (x22_5 + 1)), (by first | rfl | (simp; done) | (simp [*]; done)), H', ⟨by have := HJ5.out; have := HJ19.out; have := HJ29.out; have := HJ90.out; have := HK5.out; omega⟩, ⟨by (with_reducible repeat (first | apply Kd.B_alloc | apply Kd.B_drewN | apply Kd.B_drew)); exact HO_21.out⟩, ⟨by apply Kd.R_to; exact HO_433003.out⟩, ⟨by apply Kd.R_to; exact HO_442003.out⟩, ⟨by refine bT ?_; exact BK417.out⟩, ⟨by refine bT ?_; exact BK418.out⟩, ⟨by refine bT ?_; exact BK432.out⟩, ⟨by refine bT ?_; exact BK441.out⟩, ⟨bA⟩⟩
                 ·rw [if_neg c99] at H
                  exact absurd H (by simp)
                ·rw [if_neg c98] at H
                 have c98b0 : decide (x22_5 < 32) = false := decide_eq_false c98
                 clear c98
                 replace H := Option.bind_eq_some_iff.mp H
                 obtain ⟨⟨t475, t476, t477, t478, t481, t482⟩, A1120, H⟩ := H
                 replace H : ((l6_as.f a0_0 a0_1 a0_2 l0_3).bind fun bt484 => ((l6_same.f k5 t475 t476 t477 t478 bt484.1 bt484.2.1 bt484.2.2.1 bt484.2.2.2).bind fun t490 => (if t490 = true then (if t481 = 0 then (some (t482 == 0)) else (none)) else (none)))) = some r := H
                 have A112 := Ax.mk A1120
                 clear A1120
                 replace H := Option.bind_eq_some_iff.mp H
                 obtain ⟨⟨t484, t485, t486, t487⟩, A1130, H⟩ := H
                 replace H : ((l6_same.f k5 t475 t476 t477 t478 t484 t485 t486 t487).bind fun t490 => (if t490 = true then (if t481 = 0 then (some (t482 == 0)) else (none)) else (none))) = some r := H
                 have A113 := Ax.mk A1130
                 clear A1130
                 replace H := Option.bind_eq_some_iff.mp H
                 obtain ⟨t490, A1140, H⟩ := H
                 replace H : (if t490 = true then (if t481 = 0 then (some (t482 == 0)) else (none)) else (none)) = some r := H
                 have A114 := Ax.mk A1140
                 clear A1140
                 by_cases c115 : t490 = true
                 ·subst c115
                  have H1 : (if t481 = 0 then (some (t482 == 0)) else (none)) = some r := by rw [if_pos rfl] at H; exact H
                  clear H
                  have H := H1
                  clear H1
                  by_cases c116 : t481 = 0
                  ·rw [if_pos c116] at H
                   have c116b0 : (t481 == 0) = true := beq_iff_eq.mpr c116
                   have c116b1 : (t481 != 0) = false := bne_eq_false_iff_eq.mpr c116
                   clear c116
                   obtain rfl := Option.some.inj H
                   have hcv117 := Kd.B_string (P := Tryd.prog) Tryd.underlying48 Tryd.underlying5 Tryd.underlying9 HO_21.out
                   try go_wp2_with (first | ((with_reducible refine gate_callee (f := 18) rfl ?_); refine goesL_ (some 178) rfl rfl Tryd.func18 (by kernel_rfl) rfl #[.string t420, .string (strOfNums x21_5)] rfl (by (try simp only [List.map_toArray, List.map_cons, List.map_nil]); first | done | rfl | (simp only [List.length_drop, List.length_take]; rfl) | (rw [wrap_sum2 (by assumption)]; rfl)) ?_; (with_reducible refine (head_Choose.calls k5 t420 (strOfNums x21_5) t475 t476 t477 t478 t481 t482 _ A112.out).mono ?_); rintro e w118 ⟨v479, rfl, ho0, hb⟩; refine ⟨_, rfl, ?_⟩; have n0_ := Ax.mk (Kd.B_below (by (with_reducible repeat (first | apply Kd.B_alloc | apply Kd.B_drewN | apply Kd.B_drew)); exact HO_21.out) hb); have n1_ := Ax.mk (Kd.R_elder' (by exact Kd.R_to HO_433003.out) (Kd.R_base ho0) hb); have n2_ := Ax.mk (Kd.R_elder' (by exact Kd.R_to HO_442003.out) (Kd.R_base ho0) hb); have n3_ := Ax.mk (Kd.R_lower (Kd.R_new' (Kd.R_new' ho0 (Kd.R_lt (by exact Kd.R_to HO_433003.out))) (Kd.R_lt (by exact Kd.R_to HO_442003.out))) (bS bA)); have n4_ := Ax.mk (bB (bT BK417.out) hb); have n5_ := Ax.mk (bB (bT BK418.out) hb); have n6_ := Ax.mk (bB (bT BK432.out) hb); have n7_ := Ax.mk (bB (bT BK441.out) hb); have n8_ := Ax.mk (bP bA hb); clear HO_21; clear HO_433003; clear HO_442003; clear BK417; clear BK418; clear BK432; clear BK441; clear HB; have HO_21 := n0_; have HO_433003 := n1_; have HO_442003 := n2_; have HO480 := n3_; have BK417 := n4_; have BK418 := n5_; have BK432 := n6_; have BK441 := n7_; have HB := n8_; clear n0_ n1_ n2_ n3_ n4_ n5_ n6_ n7_ n8_; (try clear hb); (try clear hb2); (try clear hk); (try clear hi); (try clear ho0)) | ((with_reducible refine gate_dst (N := 23) rfl ?_); (try (refine gate_guard (by rfl) ?_; dsimp only)); refine box_event ?hg (N := 23) ?hd (cs := #[.int .u64 0, .int .i64 0, .int .i64 0, .slice none 0 0]) (t := 25) ?hr ?_; (case hd => rfl); (case hg => rfl); (case hr => first | (go_simp; done) | (go_simp; rfl)); intro gb483 hg w119 hbox hb; have n0_ := Ax.mk (Kd.B_below (by (with_reducible repeat (first | apply Kd.B_alloc | apply Kd.B_drewN | apply Kd.B_drew)); exact HO_21.out) hb); have n1_ := Ax.mk (Kd.R_below (by exact Kd.R_to HO_433003.out) hb); have n2_ := Ax.mk (Kd.R_below (by exact Kd.R_to HO_442003.out) hb); have n3_ := Ax.mk (Kd.R_below (by exact Kd.R_to HO480.out) hb); have n4_ := Ax.mk (bB (bT BK417.out) hb); have n5_ := Ax.mk (bB (bT BK418.out) hb); have n6_ := Ax.mk (bB (bT BK432.out) hb); have n7_ := Ax.mk (bB (bT BK441.out) hb); have n8_ := Ax.mk (bP bA hb); have n9_ := Ax.mk (hbox); have n10_ := Ax.mk ((ge_new hg : w.heap.size ≤ gb483)); have n11_ := n10_; have n12_ := Ax.mk ((ne_lt hg BK417.out : gb417 ≠ gb483)); have n13_ := Ax.mk ((ne_gt hg BK417.out : gb483 ≠ gb417)); have n14_ := Ax.mk ((ne_lt hg BK418.out : gb418 ≠ gb483)); have n15_ := Ax.mk ((ne_gt hg BK418.out : gb483 ≠ gb418)); have n16_ := Ax.mk ((ne_lt hg BK432.out : gb432 ≠ gb483)); have n17_ := Ax.mk ((ne_gt hg BK432.out : gb483 ≠ gb432)); have n18_ := Ax.mk ((ne_lt hg BK441.out : gb441 ≠ gb483)); have n19_ := Ax.mk ((ne_gt hg BK441.out : gb483 ≠ gb441)); clear HO_21; clear HO_433003; clear HO_442003; clear HO480; clear BK417; clear BK418; clear BK432; clear BK441; clear HB; have HO_21 := n0_; have HO_433003 := n1_; have HO_442003 := n2_; have HO480 := n3_; have BK417 := n4_; have BK418 := n5_; have BK432 := n6_; have BK441 := n7_; have HB := n8_; have BK483 := n9_; have GW483 := n10_; have GE483 := n11_; have NB417_483 := n12_; have NB483_417 := n13_; have NB418_483 := n14_; have NB483_418 := n15_; have NB432_483 := n16_; have NB483_432 := n17_; have NB441_483 := n18_; have NB483_441 := n19_; clear n0_ n1_ n2_ n3_ n4_ n5_ n6_ n7_ n8_ n9_ n10_ n11_ n12_ n13_ n14_ n15_ n16_ n17_ n18_ n19_; clear hb hbox hg; have hnb120 := NB483_417.out; have hnc120 := NB417_483.out; have hnb121 := NB483_418.out; have hnc121 := NB418_483.out; have hnb122 := NB483_432.out; have hnc122 := NB432_483.out; have hnb123 := NB483_441.out; have hnc123 := NB441_483.out; have hcz124_0 : w119.cell? ⟨gb483, 0, none⟩ = some (.int .u64 0) := (bC BK483.out 0).trans rfl; have hcz124_1 : w119.cell? ⟨gb483, 1, none⟩ = some (.int .i64 0) := (bC BK483.out 1).trans rfl; have hcz124_2 : w119.cell? ⟨gb483, 2, none⟩ = some (.int .i64 0) := (bC BK483.out 2).trans rfl; have hcz124_3 : w119.cell? ⟨gb483, 3, none⟩ = some (.slice none 0 0) := (bC BK483.out 3).trans rfl; have hfz124_0 := bF BK483.out 0; have hfz124_1 := bF BK483.out 1; have hfz124_2 := bF BK483.out 2; have hfz124_3 := bF BK483.out 3; obtain ⟨Ao125, co125, eo125⟩ := Kd.R_slice HO480.out; subst eo125))
                   have n0_ : Ax (Kd.B (Kd.int .u8) 5 ((((w119.setCell ⟨gb483, 0, none⟩ (.int .u64 t475)).setCell ⟨gb483, 1, none⟩ (.int .i64 t476)).setCell ⟨gb483, 2, none⟩ (.int .i64 t477)).setCell ⟨gb483, 3, none⟩ (.slice Ao125 t478.length co125)) w.heap.size (fun _ => True) v471 x21_5) := ⟨by (with_reducible repeat (first | apply Kd.B_alloc | apply Kd.B_drewN | apply Kd.B_drew)); exact Kd.B_mono (Kd.B_far (p := ⟨gb483, 3, none⟩) (Kd.B_far (p := ⟨gb483, 2, none⟩) (Kd.B_far (p := ⟨gb483, 1, none⟩) (Kd.B_far (p := ⟨gb483, 0, none⟩) (Kd.B_types HO_21.out BK483.out (by decide)) (fun _ hk => hk.2) (.int .u64 t475)) (fun _ hk => hk.2) (.int .i64 t476)) (fun _ hk => hk.2) (.int .i64 t477)) (fun _ hk => hk.2) (.slice Ao125 t478.length co125)) (fun _ hk => trivial)⟩
                   have n1_ : Ax (Kd.R k53 53 ((((w119.setCell ⟨gb483, 0, none⟩ (.int .u64 t475)).setCell ⟨gb483, 1, none⟩ (.int .i64 t476)).setCell ⟨gb483, 2, none⟩ (.int .i64 t477)).setCell ⟨gb483, 3, none⟩ (.slice Ao125 t478.length co125)) w.heap.size (fun k_ => some k_ ≠ (.slice Ao43 t436.length co43 : Value).ownBlock ∧ some k_ ≠ (.slice Ao125 t478.length co125 : Value).ownBlock) (.slice Ao36 t427.length co36) t427) := ⟨by apply Kd.R_to; exact Kd.R_mono (Kd.R_far (p := ⟨gb483, 3, none⟩) (Kd.R_far (p := ⟨gb483, 2, none⟩) (Kd.R_far (p := ⟨gb483, 1, none⟩) (Kd.R_far (p := ⟨gb483, 0, none⟩) (Kd.R_types HO_433003.out BK483.out (by decide)) (fun _ hk => hk.2) (.int .u64 t475)) (fun _ hk => hk.2) (.int .i64 t476)) (fun _ hk => hk.2) (.int .i64 t477)) (fun _ hk => hk.2) (.slice Ao125 t478.length co125)) (fun _ hk => ⟨hk.1.1, hk.1.2⟩)⟩
                   have n2_ : Ax (Kd.R k53 53 ((((w119.setCell ⟨gb483, 0, none⟩ (.int .u64 t475)).setCell ⟨gb483, 1, none⟩ (.int .i64 t476)).setCell ⟨gb483, 2, none⟩ (.int .i64 t477)).setCell ⟨gb483, 3, none⟩ (.slice Ao125 t478.length co125)) w.heap.size (fun k_ => some k_ ≠ (.slice Ao36 t427.length co36 : Value).ownBlock ∧ some k_ ≠ (.slice Ao125 t478.length co125 : Value).ownBlock) (.slice Ao43 t436.length co43) t436) := ⟨by apply Kd.R_to; exact Kd.R_mono (Kd.R_far (p := ⟨gb483, 3, none⟩) (Kd.R_far (p := ⟨gb483, 2, none⟩) (Kd.R_far (p := ⟨gb483, 1, none⟩) (Kd.R_far (p := ⟨gb483, 0, none⟩) (Kd.R_types HO_442003.out BK483.out (by decide)) (fun _ hk => hk.2) (.int .u64 t475)) (fun _ hk => hk.2) (.int .i64 t476)) (fun _ hk => hk.2) (.int .i64 t477)) (fun _ hk => hk.2) (.slice Ao125 t478.length co125)) (fun _ hk => ⟨hk.1.1, hk.1.2⟩)⟩
                   have n3_ : Ax (Kd.R k53 53 ((((w119.setCell ⟨gb483, 0, none⟩ (.int .u64 t475)).setCell ⟨gb483, 1, none⟩ (.int .i64 t476)).setCell ⟨gb483, 2, none⟩ (.int .i64 t477)).setCell ⟨gb483, 3, none⟩ (.slice Ao125 t478.length co125)) w.heap.size (fun k_ => some k_ ≠ (.slice Ao36 t427.length co36 : Value).ownBlock ∧ some k_ ≠ (.slice Ao43 t436.length co43 : Value).ownBlock) (.slice Ao125 t478.length co125) t478) := ⟨by apply Kd.R_to; exact Kd.R_mono (Kd.R_far (p := ⟨gb483, 3, none⟩) (Kd.R_far (p := ⟨gb483, 2, none⟩) (Kd.R_far (p := ⟨gb483, 1, none⟩) (Kd.R_far (p := ⟨gb483, 0, none⟩) (Kd.R_types HO480.out BK483.out (by decide)) (fun _ hk => hk.2) (.int .u64 t475)) (fun _ hk => hk.2) (.int .i64 t476)) (fun _ hk => hk.2) (.int .i64 t477)) (fun _ hk => hk.2) (.slice Ao125 t478.length co125)) (fun _ hk => ⟨hk.1.1.2, hk.1.2⟩)⟩
                   have n4_ : Ax (((((w119.setCell ⟨gb483, 0, none⟩ (.int .u64 t475)).setCell ⟨gb483, 1, none⟩ (.int .i64 t476)).setCell ⟨gb483, 2, none⟩ (.int .i64 t477)).setCell ⟨gb483, 3, none⟩ (.slice Ao125 t478.length co125)).heap[gb417]? = some (.cells #[.int .u64 a0_0, .int .i64 a0_1, .int .i64 a0_2, .slice A0_3 l0_3.length c0_3] 25 (0, 0))) := ⟨by refine bT ?_; refine bR ?_ NB417_483.out _; refine bT ?_; refine bR ?_ NB417_483.out _; refine bT ?_; refine bR ?_ NB417_483.out _; refine bT ?_; refine bR ?_ NB417_483.out _; refine bT ?_; exact BK417.out⟩
                   have n5_ : Ax (((((w119.setCell ⟨gb483, 0, none⟩ (.int .u64 t475)).setCell ⟨gb483, 1, none⟩ (.int .i64 t476)).setCell ⟨gb483, 2, none⟩ (.int .i64 t477)).setCell ⟨gb483, 3, none⟩ (.slice Ao125 t478.length co125)).heap[gb418]? = some (.cells #[.int .u64 a1_0, .int .i64 a1_1, .int .i64 a1_2, .slice A1_3 l1_3.length c1_3] 25 (0, 0))) := ⟨by refine bT ?_; refine bR ?_ NB418_483.out _; refine bT ?_; refine bR ?_ NB418_483.out _; refine bT ?_; refine bR ?_ NB418_483.out _; refine bT ?_; refine bR ?_ NB418_483.out _; refine bT ?_; exact BK418.out⟩
                   have n6_ : Ax (((((w119.setCell ⟨gb483, 0, none⟩ (.int .u64 t475)).setCell ⟨gb483, 1, none⟩ (.int .i64 t476)).setCell ⟨gb483, 2, none⟩ (.int .i64 t477)).setCell ⟨gb483, 3, none⟩ (.slice Ao125 t478.length co125)).heap[gb432]? = some (.cells #[.int .u64 t424, .int .i64 t425, .int .i64 t426, .slice Ao36 t427.length co36] 25 (0, 0))) := ⟨by refine bT ?_; refine bR ?_ NB432_483.out _; refine bT ?_; refine bR ?_ NB432_483.out _; refine bT ?_; refine bR ?_ NB432_483.out _; refine bT ?_; refine bR ?_ NB432_483.out _; refine bT ?_; exact BK432.out⟩
                   have n7_ : Ax (((((w119.setCell ⟨gb483, 0, none⟩ (.int .u64 t475)).setCell ⟨gb483, 1, none⟩ (.int .i64 t476)).setCell ⟨gb483, 2, none⟩ (.int .i64 t477)).setCell ⟨gb483, 3, none⟩ (.slice Ao125 t478.length co125)).heap[gb441]? = some (.cells #[.int .u64 t433, .int .i64 t434, .int .i64 t435, .slice Ao43 t436.length co43] 25 (0, 0))) := ⟨by refine bT ?_; refine bR ?_ NB441_483.out _; refine bT ?_; refine bR ?_ NB441_483.out _; refine bT ?_; refine bR ?_ NB441_483.out _; refine bT ?_; refine bR ?_ NB441_483.out _; refine bT ?_; exact BK441.out⟩
                   have n8_ : Ax (((((w119.setCell ⟨gb483, 0, none⟩ (.int .u64 t475)).setCell ⟨gb483, 1, none⟩ (.int .i64 t476)).setCell ⟨gb483, 2, none⟩ (.int .i64 t477)).setCell ⟨gb483, 3, none⟩ (.slice Ao125 t478.length co125)).heap[gb483]? = some (.cells #[.int .u64 t475, .int .i64 t476, .int .i64 t477, .slice Ao125 t478.length co125] 25 (0, 0))) := ⟨by refine bT ?_; refine bU (cs := #[.int .u64 t475, .int .i64 t476, .int .i64 t477, .slice none 0 0]) ?_ 3 _ rfl; refine bT ?_; refine bU (cs := #[.int .u64 t475, .int .i64 t476, .int .i64 0, .slice none 0 0]) ?_ 2 _ rfl; refine bT ?_; refine bU (cs := #[.int .u64 t475, .int .i64 0, .int .i64 0, .slice none 0 0]) ?_ 1 _ rfl; refine bT ?_; refine bU (cs := #[.int .u64 0, .int .i64 0, .int .i64 0, .slice none 0 0]) ?_ 0 _ rfl; refine bT ?_; exact BK483.out⟩
                   have n9_ : Ax (Below w.heap.size w ((((w119.setCell ⟨gb483, 0, none⟩ (.int .u64 t475)).setCell ⟨gb483, 1, none⟩ (.int .i64 t476)).setCell ⟨gb483, 2, none⟩ (.int .i64 t477)).setCell ⟨gb483, 3, none⟩ (.slice Ao125 t478.length co125))) := ⟨bA⟩
                   (try clear HO_21)
                   (try clear HO_433003)
                   (try clear HO_442003)
                   (try clear HO480)
                   (try clear BK417)
                   (try clear BK418)
                   (try clear BK432)
                   (try clear BK441)
                   (try clear BK483)
                   (try clear HB)
                   generalize ((((w119.setCell ⟨gb483, 0, none⟩ (.int .u64 t475)).setCell ⟨gb483, 1, none⟩ (.int .i64 t476)).setCell ⟨gb483, 2, none⟩ (.int .i64 t477)).setCell ⟨gb483, 3, none⟩ (.slice Ao125 t478.length co125)) = w126 at n0_ n1_ n2_ n3_ n4_ n5_ n6_ n7_ n8_ n9_ ⊢
                   have HO_21 := n0_
                   have HO_433003 := n1_
                   have HO_442003 := n2_
                   have HO480 := n3_
                   have BK417 := n4_
                   have BK418 := n5_
                   have BK432 := n6_
                   have BK441 := n7_
                   have BK483 := n8_
                   have HB := n9_
                   clear n0_ n1_ n2_ n3_ n4_ n5_ n6_ n7_ n8_ n9_
                   have n0_ := Ax.mk (Kd.B_drew HO_21.out)
                   have n1_ := Ax.mk (Kd.R_drew HO_433003.out)
                   have n2_ := Ax.mk (Kd.R_drew HO_442003.out)
                   have n3_ := Ax.mk (Kd.R_drew HO480.out)
                   have n4_ := Ax.mk (blk_drew BK417.out)
                   have n5_ := Ax.mk (blk_drew BK418.out)
                   have n6_ := Ax.mk (blk_drew BK432.out)
                   have n7_ := Ax.mk (blk_drew BK441.out)
                   have n8_ := Ax.mk (blk_drew BK483.out)
                   have n9_ := Ax.mk (below_drew1 HB.out)
                   clear HO_21
                   clear HO_433003
                   clear HO_442003
                   clear HO480
                   clear BK417
                   clear BK418
                   clear BK432
                   clear BK441
                   clear BK483
                   clear HB
                   have HO_21 := n0_
                   have HO_433003 := n1_
                   have HO_442003 := n2_
                   have HO480 := n3_
                   have BK417 := n4_
                   have BK418 := n5_
                   have BK432 := n6_
                   have BK441 := n7_
                   have BK483 := n8_
                   have HB := n9_
                   clear n0_ n1_ n2_ n3_ n4_ n5_ n6_ n7_ n8_ n9_
                   refine start_ (n := 13) (S := fun w' => w'.cell? ⟨gb483, 0, none⟩ = some (.int .u64 t475) ∧ w'.cell? ⟨gb483, 1, none⟩ = some (.int .i64 t476) ∧ w'.cell? ⟨gb483, 2, none⟩ = some (.int .i64 t477) ∧ w'.cell? ⟨gb483, 3, none⟩ = some (.slice Ao125 t478.length co125) ∧ w'.cell? ⟨gb417, 0, none⟩ = some (.int .u64 a0_0) ∧ w'.cell? ⟨gb417, 1, none⟩ = some (.int .i64 a0_1) ∧ w'.cell? ⟨gb417, 2, none⟩ = some (.int .i64 a0_2) ∧ w'.cell? ⟨gb417, 3, none⟩ = some (.slice A0_3 l0_3.length c0_3)) (ds := []) (TF 0 13) (by kernel_rfl) rfl rfl ⟨(bC BK483.out 0).trans rfl, (bC BK483.out 1).trans rfl, (bC BK483.out 2).trans rfl, (bC BK483.out 3).trans rfl, (bC BK417.out 0).trans rfl, (bC BK417.out 1).trans rfl, (bC BK417.out 2).trans rfl, (bC BK417.out 3).trans rfl⟩ (fun hHeld => ?_); refine with_tabW l6_HeadEither.tab22 l6_HeadEither.bits22 (fun HT_ HW_ => ?_)
                   generalize w126.drew = w127 at HO_21 HO_433003 HO_442003 HO480 BK417 BK418 BK432 BK441 BK483 HB hHeld ⊢
                   refine take_ (i := 0) (N := some 182) (v := ?_) (a' := ?_) (TF 1 12) rfl rfl (take_ofW HT_.out HW_.out (by kernel_rfl)) (fun _ _ _ h => h) (Or.inl ⟨by rfl, ?_⟩) hHeld ?_ ?_
                   rotate_left
                   ·rintro w' ⟨s0, s1, s2, s3, s4, s5, s6, s7⟩
                    go_simp
                    with_reducible rfl
                   rotate_left
                   ·simp only [Act.put, sI, sZ, sS, i64_w, i32_w]
                    rfl
                   refine take_ (i := 1) (N := some 183) (v := ?_) (a' := ?_) (TF 2 11) rfl rfl (take_ofW HT_.out HW_.out (by kernel_rfl)) (fun _ _ _ h => h) (Or.inl ⟨by rfl, ?_⟩) hHeld ?_ ?_
                   rotate_left
                   ·rintro w' ⟨s0, s1, s2, s3, s4, s5, s6, s7⟩
                    go_simp
                    with_reducible rfl
                   rotate_left
                   ·simp only [Act.put, sI, sZ, sS, i64_w, i32_w]
                    rfl
                   refine one_ (i := 2) (N := some 184) (TF 3 10) rfl rfl (one_of HT_.out (by kernel_rfl)) (by decide) (fun K hK => ?_)
                   refine goes_ Tryd.func12 (by kernel_rfl) rfl #[.agg #[.int .u64 a0_0, .int .i64 a0_1, .int .i64 a0_2, .slice A0_3 l0_3.length c0_3]] (by rfl) rfl rfl (by (try simp only [List.map_toArray, List.map_cons, List.map_nil]); first | done | rfl | (simp only [List.length_drop, List.length_take]; rfl) | (rw [wrap_sum2 (by assumption)]; rfl)) ?_
                   with_reducible refine (l6_as.calls a0_0 a0_1 a0_2 (fun k_ => k_ < w.heap.size) _ _ l0_3 t484 t485 t486 t487 _ ?side1 A113.out).mono ?_
                   (case side1 => exact Kd.V_mk HC0_3.out (Kd.F_below (Kd.C_F k53_heap HR0_3.out) bA))
                   rintro e w128 ⟨v488, rfl, ho0, hb⟩
                   refine ⟨_, rfl, ?_⟩
                   have n0_ := Ax.mk (Kd.B_below (by (with_reducible repeat (first | apply Kd.B_alloc | apply Kd.B_drewN | apply Kd.B_drew)); exact HO_21.out) hb)
                   have n1_ := Ax.mk (Kd.R_below (by exact Kd.R_to HO_433003.out) hb)
                   have n2_ := Ax.mk (Kd.R_below (by exact Kd.R_to HO_442003.out) hb)
                   have n3_ := Ax.mk (Kd.R_below (by exact Kd.R_to HO480.out) hb)
                   have n4_ := Ax.mk (Kd.V_lower (Kd.V_mono (ok' := fun k_ => some k_ ≠ (v471 : Value).ownBlock ∧ some k_ ≠ (.slice Ao36 t427.length co36 : Value).ownBlock ∧ some k_ ≠ (.slice Ao43 t436.length co43 : Value).ownBlock ∧ some k_ ≠ (.slice Ao125 t478.length co125 : Value).ownBlock ∧ k_ ≠ gb417 ∧ k_ ≠ gb418 ∧ k_ ≠ gb432 ∧ k_ ≠ gb441 ∧ k_ ≠ gb483) ho0 (fun k_ hk_ => ⟨Or.elim hk_ (fun hs_ => fun e_ => Nat.not_le.2 hs_ (Kd.B_base HO_21.out k_ e_.symm)) (fun hn_ => (Kd.fresh' (Kd.B_lt (by (with_reducible repeat (first | apply Kd.B_alloc | apply Kd.B_drewN | apply Kd.B_drew)); exact HO_21.out)) k_ hn_)), Or.elim hk_ (fun hs_ => fun e_ => Nat.not_le.2 hs_ (Kd.R_base HO_433003.out k_ e_.symm)) (fun hn_ => (Kd.fresh' (Kd.R_lt (by exact Kd.R_to HO_433003.out)) k_ hn_)), Or.elim hk_ (fun hs_ => fun e_ => Nat.not_le.2 hs_ (Kd.R_base HO_442003.out k_ e_.symm)) (fun hn_ => (Kd.fresh' (Kd.R_lt (by exact Kd.R_to HO_442003.out)) k_ hn_)), Or.elim hk_ (fun hs_ => fun e_ => Nat.not_le.2 hs_ (Kd.R_base HO480.out k_ e_.symm)) (fun hn_ => (Kd.fresh' (Kd.R_lt (by exact Kd.R_to HO480.out)) k_ hn_)), Or.elim hk_ (fun hs_ => fun e_ => Nat.not_le.2 hs_ (by rw [e_]; exact GW417.out)) (fun hn_ => (Kd.freshB (g := gb417) (o := .cells #[.int .u64 a0_0, .int .i64 a0_1, .int .i64 a0_2, .slice A0_3 l0_3.length c0_3] 25 (0, 0)) (bT BK417.out) k_ hn_)), Or.elim hk_ (fun hs_ => fun e_ => Nat.not_le.2 hs_ (by rw [e_]; exact GW418.out)) (fun hn_ => (Kd.freshB (g := gb418) (o := .cells #[.int .u64 a1_0, .int .i64 a1_1, .int .i64 a1_2, .slice A1_3 l1_3.length c1_3] 25 (0, 0)) (bT BK418.out) k_ hn_)), Or.elim hk_ (fun hs_ => fun e_ => Nat.not_le.2 hs_ (by rw [e_]; exact GW432.out)) (fun hn_ => (Kd.freshB (g := gb432) (o := .cells #[.int .u64 t424, .int .i64 t425, .int .i64 t426, .slice Ao36 t427.length co36] 25 (0, 0)) (bT BK432.out) k_ hn_)), Or.elim hk_ (fun hs_ => fun e_ => Nat.not_le.2 hs_ (by rw [e_]; exact GW441.out)) (fun hn_ => (Kd.freshB (g := gb441) (o := .cells #[.int .u64 t433, .int .i64 t434, .int .i64 t435, .slice Ao43 t436.length co43] 25 (0, 0)) (bT BK441.out) k_ hn_)), Or.elim hk_ (fun hs_ => fun e_ => Nat.not_le.2 hs_ (by rw [e_]; exact GW483.out)) (fun hn_ => (Kd.freshB (g := gb483) (o := .cells #[.int .u64 t475, .int .i64 t476, .int .i64 t477, .slice Ao125 t478.length co125] 25 (0, 0)) (bT BK483.out) k_ hn_))⟩)) (bS bA))
                   have n5_ := Ax.mk (bB (bT BK417.out) hb)
                   have n6_ := Ax.mk (bB (bT BK418.out) hb)
                   have n7_ := Ax.mk (bB (bT BK432.out) hb)
                   have n8_ := Ax.mk (bB (bT BK441.out) hb)
                   have n9_ := Ax.mk (bB (bT BK483.out) hb)
                   have n10_ := Ax.mk (bP bA hb)
                   clear HO_21
                   clear HO_433003
                   clear HO_442003
                   clear HO480
                   clear BK417
                   clear BK418
                   clear BK432
                   clear BK441
                   clear BK483
                   clear HB
                   have HO_21 := n0_
                   have HO_433003 := n1_
                   have HO_442003 := n2_
                   have HO480 := n3_
                   have HO489 := n4_
                   have BK417 := n5_
                   have BK418 := n6_
                   have BK432 := n7_
                   have BK441 := n8_
                   have BK483 := n9_
                   have HB := n10_
                   clear n0_ n1_ n2_ n3_ n4_ n5_ n6_ n7_ n8_ n9_ n10_
                   (try clear hb)
                   (try clear hb2)
                   (try clear hk)
                   (try clear hi)
                   (try clear ho0)
                   obtain ⟨Ao129, co129, eo129⟩ := Kd.V_slice HO489.out
                   (first | subst eo129 | (injection eo129 with f1_ f2_ f3_; have f4_ := f1_.symm; have f5_ := f3_.symm; clear f1_ f2_ f3_; subst f4_; subst f5_))
                   refine hK.out _ _ ⟨(bC BK483.out 0).trans rfl, (bC BK483.out 1).trans rfl, (bC BK483.out 2).trans rfl, (bC BK483.out 3).trans rfl, (bC BK417.out 0).trans rfl, (bC BK417.out 1).trans rfl, (bC BK417.out 2).trans rfl, (bC BK417.out 3).trans rfl⟩ (fun hHeld => ?_)
                   clear hK K
                   refine norm_ (a' := ?_) ?_ ?_
                   rotate_left
                   ·show Act.put _ (some 184) _ = _
                    simp only [Act.put, sI, sZ, sS, i64_w, i32_w]
                    rfl
                   refine one_ (i := 3) (N := some 185) (TF 4 9) rfl rfl (one_of HT_.out (by kernel_rfl)) (by decide) (fun K hK => ?_)
                   refine goes_ Tryd.func20 (by kernel_rfl) rfl #[.agg #[.int .u64 t475, .int .i64 t476, .int .i64 t477, .slice Ao125 t478.length co125], .agg #[.int .u64 t484, .int .i64 t485, .int .i64 t486, .slice Ao129 t487.length co129]] (by rfl) rfl rfl (by (try simp only [List.map_toArray, List.map_cons, List.map_nil]); first | done | rfl | (simp only [List.length_drop, List.length_take]; rfl) | (rw [wrap_sum2 (by assumption)]; rfl)) ?_
                   with_reducible refine (l6_same.calls k5 t475 t476 t477 _ _ t478 t484 t485 t486 _ _ t487 true _ ?side1 ?side2 ?side3 ?side4 A114.out).mono ?_
                   (case side1 => repeat (first | exact (Kd.R_reads' HO480.out).2.2 | (with_reducible refine Kd.C_alloc ?_ _) | (with_reducible refine Kd.C_drewN ?_ _) | (with_reducible refine Kd.C_drew ?_)))
                   (case side2 => exact (Kd.R_reads' HO480.out).2.1)
                   (case side3 => repeat (first | exact (Kd.V_reads' HO489.out).2.2 | (with_reducible refine Kd.C_alloc ?_ _) | (with_reducible refine Kd.C_drewN ?_ _) | (with_reducible refine Kd.C_drew ?_)))
                   (case side4 => exact (Kd.V_reads' HO489.out).2.1)
                   rintro e w130 ⟨rfl, hb⟩
                   refine ⟨_, rfl, ?_⟩
                   have n0_ := Ax.mk (Kd.B_below (by (with_reducible repeat (first | apply Kd.B_alloc | apply Kd.B_drewN | apply Kd.B_drew)); exact HO_21.out) hb)
                   have n1_ := Ax.mk (Kd.R_below (by exact Kd.R_to HO_433003.out) hb)
                   have n2_ := Ax.mk (Kd.R_below (by exact Kd.R_to HO_442003.out) hb)
                   have n3_ := Ax.mk (Kd.R_below (by exact Kd.R_to HO480.out) hb)
                   have n4_ := Ax.mk (Kd.V_below (by exact Kd.V_to HO489.out) hb)
                   have n5_ := Ax.mk (bB (bT BK417.out) hb)
                   have n6_ := Ax.mk (bB (bT BK418.out) hb)
                   have n7_ := Ax.mk (bB (bT BK432.out) hb)
                   have n8_ := Ax.mk (bB (bT BK441.out) hb)
                   have n9_ := Ax.mk (bB (bT BK483.out) hb)
                   have n10_ := Ax.mk (bP bA hb)
                   clear HO_21
                   clear HO_433003
                   clear HO_442003
                   clear HO480
                   clear HO489
                   clear BK417
                   clear BK418
                   clear BK432
                   clear BK441
                   clear BK483
                   clear HB
                   have HO_21 := n0_
                   have HO_433003 := n1_
                   have HO_442003 := n2_
                   have HO480 := n3_
                   have HO489 := n4_
                   have BK417 := n5_
                   have BK418 := n6_
                   have BK432 := n7_
                   have BK441 := n8_
                   have BK483 := n9_
                   have HB := n10_
                   clear n0_ n1_ n2_ n3_ n4_ n5_ n6_ n7_ n8_ n9_ n10_
                   (try clear hb)
                   (try clear hb2)
                   (try clear hk)
                   (try clear hi)
                   refine hK.out _ _ ⟨(bC BK483.out 0).trans rfl, (bC BK483.out 1).trans rfl, (bC BK483.out 2).trans rfl, (bC BK483.out 3).trans rfl, (bC BK417.out 0).trans rfl, (bC BK417.out 1).trans rfl, (bC BK417.out 2).trans rfl, (bC BK417.out 3).trans rfl⟩ (fun hHeld => ?_)
                   clear hK K
                   refine norm_ (a' := ?_) ?_ ?_
                   rotate_left
                   ·show Act.put _ (some 185) _ = _
                    simp only [Act.put, sI, sZ, sS, i64_w, i32_w]
                    rfl
                   refine pure_ (i := 4) (N := some 186) (v := ?_) (a' := ?_) (TF 5 8) rfl rfl (any_of HT_.out (by kernel_rfl)) (fun _ _ _ h => h) (Or.inl ⟨by rfl, ?_⟩) ?_ ?_
                   rotate_left; · intro w'; go_simp; with_reducible rfl
                   rotate_left; · simp only [Act.put, sI, sZ, sS, i64_w, i32_w]; rfl
                   refine pure_ (i := 5) (N := some 187) (v := ?_) (a' := ?_) (TF 6 7) rfl rfl (any_of HT_.out (by kernel_rfl)) (fun _ _ _ h => h) (Or.inl ⟨by rfl, ?_⟩) ?_ ?_
                   rotate_left; · intro w'; go_simp; with_reducible rfl
                   rotate_left; · simp only [Act.put, sI, sZ, sS, i64_w, i32_w]; rfl
                   refine pure_ (i := 6) (N := some 188) (v := ?_) (a' := ?_) (TF 7 6) rfl rfl (any_of HT_.out (by kernel_rfl)) (fun _ _ _ h => h) (Or.inl ⟨by rfl, ?_⟩) ?_ ?_
                   rotate_left; · intro w'; go_simp; with_reducible rfl
                   rotate_left; · simp only [Act.put, sI, sZ, sS, i64_w, i32_w]; rfl
                   refine pure_ (i := 7) (N := some 189) (v := ?_) (a' := ?_) (TF 8 5) rfl rfl (any_of HT_.out (by kernel_rfl)) (fun _ _ _ h => h) (Or.inl ⟨by rfl, ?_⟩) ?_ ?_
                   rotate_left; · intro w'; go_simp; with_reducible rfl
                   rotate_left; · simp only [Act.put, sI, sZ, sS, i64_w, i32_w]; rfl
                   refine pure_ (i := 8) (N := some 190) (v := ?_) (a' := ?_) (TF 9 4) rfl rfl (any_of HT_.out (by kernel_rfl)) (fun _ _ _ h => h) (Or.inl ⟨by rfl, ?_⟩) ?_ ?_
                   rotate_left; · intro w'; go_simp; with_reducible rfl
                   rotate_left; · simp only [Act.put, sI, sZ, sS, i64_w, i32_w]; rfl
                   refine pure_ (i := 9) (N := some 191) (v := ?_) (a' := ?_) (TF 10 3) rfl rfl (any_of HT_.out (by kernel_rfl)) (fun _ _ _ h => h) (Or.inl ⟨by rfl, ?_⟩) ?_ ?_
                   rotate_left; · intro w'; go_simp; with_reducible rfl
                   rotate_left; · simp only [Act.put, sI, sZ, sS, i64_w, i32_w]; rfl
                   refine pure_ (i := 10) (N := some 192) (v := ?_) (a' := ?_) (TF 11 2) rfl rfl (any_of HT_.out (by kernel_rfl)) (fun _ _ _ h => h) (Or.inl ⟨by rfl, ?_⟩) ?_ ?_
                   rotate_left; · intro w'; go_simp; with_reducible rfl
                   rotate_left; · simp only [Act.put, sI, sZ, sS, i64_w, i32_w]; rfl
                   refine pure_ (i := 11) (N := some 193) (v := ?_) (a' := ?_) (TF 12 1) rfl rfl (any_of HT_.out (by kernel_rfl)) (fun _ _ _ h => h) (Or.inl ⟨by rfl, ?_⟩) ?_ ?_
                   rotate_left; · intro w'; go_simp; with_reducible rfl
                   rotate_left; · simp only [Act.put, sI, sZ, sS, i64_w, i32_w]; rfl
                   refine pure_ (i := 12) (N := some 8) (v := ?_) (a' := ?_) (TF 13 0) rfl rfl (any_of HT_.out (by kernel_rfl)) (fun _ _ _ h => h) (Or.inl ⟨by rfl, ?_⟩) ?_ ?_
                   rotate_left; · intro w'; go_simp; with_reducible rfl
                   rotate_left; · simp only [Act.put, sI, sZ, sS, i64_w, i32_w]; rfl
                   refine done_ (done_of HT_.out (by kernel_rfl)) ?_
                   try go_wp2
                   go_ret
                   exact ⟨by first | rfl | (simp [errW_none, errW_some] <;> rfl) | (simp [*, errW_none, errW_some] <;> rfl), bA⟩
                  ·rw [if_neg c116] at H
                   have c116b0 : (t481 == 0) = false := beq_eq_false_iff_ne.mpr c116
                   have c116b1 : (t481 != 0) = true := bne_iff_ne.mpr c116
                   exact absurd H (by simp)
                 ·replace c115 := Bool.eq_false_iff.mpr c115
                  subst c115
                  have H1 : (none) = some r := by rw [if_neg (show ¬ (false = true) by decide)] at H; exact H
                  clear H
                  have H := H1
                  clear H1
                  exact absurd H (by simp)
             ·rw [if_neg c95] at H
              exact absurd H (by simp)
end Go.Proofs.YtcgejogmiglalaaDoor.Fn
end
