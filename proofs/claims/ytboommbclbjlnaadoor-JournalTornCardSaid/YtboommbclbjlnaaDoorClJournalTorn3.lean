-- Packed by pack.py, a program of this session, out of texts of this claim.
import Derived.Test.YtboommbclbjlnaaDoorClJournalTorn1
import Derived.Test.YtboommbclbjlnaaDoorClJournalTorn2
section
-- Written by printx.py, a program of this session over the kit's print: each Go function as a plain Lean function, and that the Go code computes it.
namespace Go.Proofs.YtboommbclbjlnaaDoor.Fn
open Go.RowKit Go.Proofs.YtboommbclbjlnaaDoorW.PrintWords Go.Proofs.YtboommbclbjlnaaDoorW.PrintLast Go.Proofs.YtboommbclbjlnaaDoorW.PrintMore Go.Proofs.YtboommbclbjlnaaDoor.Lf
attribute [local go_sem] max2_int min2_int max_two min_two max_three min_three max_four min_four   -- for this text's walks alone
set_option linter.unusedVariables false
set_option linter.unusedSimpArgs false
mutual
def l13_JournalTorn.j0 : Nat → Int → List (List (S24)) → Int → Int → Bool → Bool → Option (Bool)
 | 0, _, _, _, _, _, _ => none
 | k + 1, x0, x1, x2, x3, x9, x36 => if x36 = true then (some x9) else ((journal_New.f k x0 ([] : List (S24))).bind fun bt339 => (l13_JournalTorn.l0 k x1 x2 x3 (([(bt339.2.2.1.size : Int)] : List Int)) (([(⟨bt339.1, bt339.2.1, bt339.2.2.1⟩ : S66)] : List (S66))) 0 bt339.1 bt339.2.1 bt339.2.2.1))
def l13_JournalTorn.l0 : Nat → List (List (S24)) → Int → Int → List Int → List (S66) → Int → Int → List (S44) → ByteArray → Option (Bool)
 | 0, _, _, _, _, _, _, _, _, _ => none
 | k + 1, x1, x2, x3, x13, x14, x15, x346000, x346001, x346002 => if x15 < (x1.length : Int) then (if 0 ≤ x15 then ((journal_Add.f k x346000 x346001 x346002 (rd_L4 x1 x15)).bind fun bt353 => (if bt353.2.2.2 = 0 then (if x13.length < 17592186044416 then (if x14.length < 2932031007402 then (l13_JournalTorn.l0 k x1 x2 x3 (x13 ++ [(bt353.2.2.1.size : Int)]) (x14 ++ [(⟨bt353.1, bt353.2.1, bt353.2.2.1⟩ : S66)]) (wrap64 (x15 + 1)) bt353.1 bt353.2.1 bt353.2.2.1) else (none)) else (none)) else (l13_JournalTorn.l0 k x1 x2 x3 x13 x14 (wrap64 (x15 + 1)) x346000 x346001 x346002))) else (none)) else (l13_JournalTorn.l1 k (mx 0 (mn x2 (x346002.size : Int))) x3 x13 x14 0 x346000 x346001 x346002)
def l13_JournalTorn.j3 : Nat → Int → Int → List Int → List (S66) → Int → Int → List (S44) → ByteArray → Option (Bool)
 | 0, _, _, _, _, _, _, _, _ => none
 | k + 1, x2, x3, x13, x14, x18, x346000, x346001, x346002 => if 0 ≤ x2 then (if x2 ≤ (x346002.size : Int) then ((journal_Read.f k (x346002.extract 0 (x2 : Int).toNat)).bind fun bt367 => (if x18 = 0 then (if bt367.2.2.2 = 0 then (if (bt367.2.1.length : Int) = 0 then (if bt367.1 = 0 then (if x18 > 0 then (if 0 ≤ (wrap64 (x18 - 1)) then (if (wrap64 (x18 - 1)) < (x13.length : Int) then (if bt367.2.2.2 = (rd x13 (wrap64 (x18 - 1))) then (if (wrap64 (x18 - 1)) < (x14.length : Int) then (if bt367.2.2.1.toList = ((rd_T66 x14 (wrap64 (x18 - 1))).f2).toList then (if bt367.1 = ((rd_T66 x14 (wrap64 (x18 - 1))).f0) then (l13_JournalTorn.j4 k x3 ((bt367.2.1.length : Int) != x18) x346000 x346001 x346002) else (none)) else (none)) else (none)) else (none)) else (none)) else (none)) else (l13_JournalTorn.j4 k x3 false x346000 x346001 x346002)) else (none)) else (none)) else (none)) else (if x18 > 0 then (if 0 ≤ (wrap64 (x18 - 1)) then (if (wrap64 (x18 - 1)) < (x13.length : Int) then (if bt367.2.2.2 = (rd x13 (wrap64 (x18 - 1))) then (if (wrap64 (x18 - 1)) < (x14.length : Int) then (if bt367.2.2.1.toList = ((rd_T66 x14 (wrap64 (x18 - 1))).f2).toList then (if bt367.1 = ((rd_T66 x14 (wrap64 (x18 - 1))).f0) then (l13_JournalTorn.j4 k x3 ((bt367.2.1.length : Int) != x18) x346000 x346001 x346002) else (none)) else (none)) else (none)) else (none)) else (none)) else (none)) else (l13_JournalTorn.j4 k x3 false x346000 x346001 x346002)))) else (none)) else (none)
def l13_JournalTorn.j4 : Nat → Int → Bool → Int → List (S44) → ByteArray → Option (Bool)
 | 0, _, _, _, _, _ => none
 | k + 1, x3, x163, x346000, x346001, x346002 => if x163 = true then (none) else ((journal_Add.f k x346000 x346001 x346002 (([(⟨3, 1, 0, 0, (⟨#[]⟩ : ByteArray)⟩ : S24)] : List (S24)))).bind fun bt383 => (if 0 ≤ (x346002.size : Int) then (if (x346002.size : Int) ≤ (bt383.2.2.1.size : Int) then (if 0 ≤ (mx 0 (mn x3 (wrap64 (((bt383.2.2.1.extract ((x346002.size : Int) : Int).toNat bt383.2.2.1.size).size : Int) - 1)))) then (if (mx 0 (mn x3 (wrap64 (((bt383.2.2.1.extract ((x346002.size : Int) : Int).toNat bt383.2.2.1.size).size : Int) - 1)))) ≤ ((bt383.2.2.1.extract ((x346002.size : Int) : Int).toNat bt383.2.2.1.size).size : Int) then (if x346002.size + ((bt383.2.2.1.extract ((x346002.size : Int) : Int).toNat bt383.2.2.1.size).extract 0 ((mx 0 (mn x3 (wrap64 (((bt383.2.2.1.extract ((x346002.size : Int) : Int).toNat bt383.2.2.1.size).size : Int) - 1)))) : Int).toNat).size ≤ 9223372036854775807 then ((journal_Read.f k (x346002 ++ ((bt383.2.2.1.extract ((x346002.size : Int) : Int).toNat bt383.2.2.1.size).extract 0 ((mx 0 (mn x3 (wrap64 (((bt383.2.2.1.extract ((x346002.size : Int) : Int).toNat bt383.2.2.1.size).size : Int) - 1)))) : Int).toNat))).bind fun bt390 => (if bt390.2.2.2 = (x346002.size : Int) then (if bt390.1 = x346000 then (some ((bt390.2.1.length : Int) == (x346001.length : Int))) else (none)) else (none))) else (none)) else (none)) else (none)) else (none)) else (none)))
def l13_JournalTorn.l1 : Nat → Int → Int → List Int → List (S66) → Int → Int → List (S44) → ByteArray → Option (Bool)
 | 0, _, _, _, _, _, _, _, _ => none
 | k + 1, x2, x3, x13, x14, x18, x346000, x346001, x346002 => if x18 < (x13.length : Int) then (if 0 ≤ x18 then (if (rd x13 x18) ≤ x2 then (l13_JournalTorn.l1 k x2 x3 x13 x14 (wrap64 (x18 + 1)) x346000 x346001 x346002) else (l13_JournalTorn.j3 k x2 x3 x13 x14 x18 x346000 x346001 x346002)) else (none)) else (l13_JournalTorn.j3 k x2 x3 x13 x14 x18 x346000 x346001 x346002)
end
def l13_JournalTorn.f (k : Nat) (a0 : Int) (l1 : List (List (S24))) (a2 : Int) (a3 : Int) : Option (Bool) := (l13_shown.f k).bind fun t337 => ((l13_short.f k l1).bind fun t338 => (if t337 = true then (if t338 = true then (l13_JournalTorn.j0 k a0 l1 a2 a3 t337 (decide (a0 > 1099511627776))) else (l13_JournalTorn.j0 k a0 l1 a2 a3 t337 true)) else (l13_JournalTorn.j0 k a0 l1 a2 a3 t337 true)))
theorem l13_JournalTorn.mono_l : ∀ k, (∀ y0 y1 y2 y3 y4 y5, LeO (l13_JournalTorn.j0 k y0 y1 y2 y3 y4 y5) (l13_JournalTorn.j0 (k + 1) y0 y1 y2 y3 y4 y5)) ∧ (∀ y0 y1 y2 y3 y4 y5 y6 y7 y8, LeO (l13_JournalTorn.l0 k y0 y1 y2 y3 y4 y5 y6 y7 y8) (l13_JournalTorn.l0 (k + 1) y0 y1 y2 y3 y4 y5 y6 y7 y8)) ∧ (∀ y0 y1 y2 y3 y4 y5 y6 y7, LeO (l13_JournalTorn.j3 k y0 y1 y2 y3 y4 y5 y6 y7) (l13_JournalTorn.j3 (k + 1) y0 y1 y2 y3 y4 y5 y6 y7)) ∧ (∀ y0 y1 y2 y3 y4, LeO (l13_JournalTorn.j4 k y0 y1 y2 y3 y4) (l13_JournalTorn.j4 (k + 1) y0 y1 y2 y3 y4)) ∧ (∀ y0 y1 y2 y3 y4 y5 y6 y7, LeO (l13_JournalTorn.l1 k y0 y1 y2 y3 y4 y5 y6 y7) (l13_JournalTorn.l1 (k + 1) y0 y1 y2 y3 y4 y5 y6 y7))
 | 0 => ⟨fun _ _ _ _ _ _ r h => by simp [l13_JournalTorn.j0] at h, fun _ _ _ _ _ _ _ _ _ r h => by simp [l13_JournalTorn.l0] at h, fun _ _ _ _ _ _ _ _ r h => by simp [l13_JournalTorn.j3] at h, fun _ _ _ _ _ r h => by simp [l13_JournalTorn.j4] at h, fun _ _ _ _ _ _ _ _ r h => by simp [l13_JournalTorn.l1] at h⟩
 | k + 1 => by
  obtain ⟨ih0, ih1, ih2, ih3, ih4⟩ := l13_JournalTorn.mono_l k
  refine ⟨?_, ?_, ?_, ?_, ?_⟩
  ·intro y0 y1 y2 y3 y4 y5
   unfold l13_JournalTorn.j0
   repeat' first
   | (with_reducible exact ih1 _ _ _ _ _ _ _ _ _)
   | (with_reducible exact journal_New.mono _ _ _)
   | (with_reducible exact LeO.refl _)
   | (with_reducible exact LeO.none _)
   | (with_reducible refine LeO.ite ?_ ?_)
   | (with_reducible refine LeO.bind ?_ (fun _ => ?_))
   | exact ih1 _ _ _ _ _ _ _ _ _
   | exact journal_New.mono _ _ _
   | exact LeO.none _
   | refine LeO.ite ?_ ?_
   | refine LeO.bind ?_ (fun _ => ?_)
  ·intro y0 y1 y2 y3 y4 y5 y6 y7 y8
   unfold l13_JournalTorn.l0
   repeat' first
   | (with_reducible exact ih1 _ _ _ _ _ _ _ _ _)
   | (with_reducible exact ih4 _ _ _ _ _ _ _ _)
   | (with_reducible exact journal_Add.mono _ _ _ _ _)
   | (with_reducible exact LeO.refl _)
   | (with_reducible exact LeO.none _)
   | (with_reducible refine LeO.ite ?_ ?_)
   | (with_reducible refine LeO.bind ?_ (fun _ => ?_))
   | exact ih1 _ _ _ _ _ _ _ _ _
   | exact ih4 _ _ _ _ _ _ _ _
   | exact journal_Add.mono _ _ _ _ _
   | exact LeO.none _
   | refine LeO.ite ?_ ?_
   | refine LeO.bind ?_ (fun _ => ?_)
  ·intro y0 y1 y2 y3 y4 y5 y6 y7
   unfold l13_JournalTorn.j3
   repeat' first
   | (with_reducible exact ih3 _ _ _ _ _)
   | (with_reducible exact journal_Read.mono _ _)
   | (with_reducible exact LeO.refl _)
   | (with_reducible exact LeO.none _)
   | (with_reducible refine LeO.ite ?_ ?_)
   | (with_reducible refine LeO.bind ?_ (fun _ => ?_))
   | exact ih3 _ _ _ _ _
   | exact journal_Read.mono _ _
   | exact LeO.none _
   | refine LeO.ite ?_ ?_
   | refine LeO.bind ?_ (fun _ => ?_)
  ·intro y0 y1 y2 y3 y4
   unfold l13_JournalTorn.j4
   repeat' first
   | (with_reducible exact journal_Add.mono _ _ _ _ _)
   | (with_reducible exact journal_Read.mono _ _)
   | (with_reducible exact LeO.refl _)
   | (with_reducible exact LeO.none _)
   | (with_reducible refine LeO.ite ?_ ?_)
   | (with_reducible refine LeO.bind ?_ (fun _ => ?_))
   | exact journal_Add.mono _ _ _ _ _
   | exact journal_Read.mono _ _
   | exact LeO.none _
   | refine LeO.ite ?_ ?_
   | refine LeO.bind ?_ (fun _ => ?_)
  ·intro y0 y1 y2 y3 y4 y5 y6 y7
   unfold l13_JournalTorn.l1
   repeat' first
   | (with_reducible exact ih2 _ _ _ _ _ _ _ _)
   | (with_reducible exact ih4 _ _ _ _ _ _ _ _)
   | (with_reducible exact LeO.refl _)
   | (with_reducible exact LeO.none _)
   | (with_reducible refine LeO.ite ?_ ?_)
   | (with_reducible refine LeO.bind ?_ (fun _ => ?_))
   | exact ih2 _ _ _ _ _ _ _ _
   | exact ih4 _ _ _ _ _ _ _ _
   | exact LeO.none _
   | refine LeO.ite ?_ ?_
   | refine LeO.bind ?_ (fun _ => ?_)
theorem l13_JournalTorn.mono : ∀ a0 a1 a2 a3 k, LeO (l13_JournalTorn.f k a0 a1 a2 a3) (l13_JournalTorn.f (k + 1) a0 a1 a2 a3) := by
 intro a0 a1 a2 a3 k
 obtain ⟨ih0, ih1, ih2, ih3, ih4⟩ := l13_JournalTorn.mono_l k
 unfold l13_JournalTorn.f
 repeat' first
   | (with_reducible exact ih0 _ _ _ _ _ _)
   | (with_reducible exact ih1 _ _ _ _ _ _ _ _ _)
   | (with_reducible exact ih2 _ _ _ _ _ _ _ _)
   | (with_reducible exact ih3 _ _ _ _ _)
   | (with_reducible exact ih4 _ _ _ _ _ _ _ _)
   | (with_reducible exact journal_Add.mono _ _ _ _ _)
   | (with_reducible exact journal_New.mono _ _ _)
   | (with_reducible exact journal_Read.mono _ _)
   | (with_reducible exact l13_short.mono _ _)
   | (with_reducible exact l13_shown.mono _)
   | (with_reducible exact LeO.refl _)
   | (with_reducible exact LeO.none _)
   | (with_reducible refine LeO.ite ?_ ?_)
   | (with_reducible refine LeO.bind ?_ (fun _ => ?_))
   | exact ih0 _ _ _ _ _ _
   | exact ih1 _ _ _ _ _ _ _ _ _
   | exact ih2 _ _ _ _ _ _ _ _
   | exact ih3 _ _ _ _ _
   | exact ih4 _ _ _ _ _ _ _ _
   | exact journal_Add.mono _ _ _ _ _
   | exact journal_New.mono _ _ _
   | exact journal_Read.mono _ _
   | exact l13_short.mono _ _
   | exact l13_shown.mono _
   | exact LeO.none _
   | refine LeO.ite ?_ ?_
   | refine LeO.bind ?_ (fun _ => ?_)
def l13_JournalTorn.T11 : Bool × List (List Nat × List Nat) := (true, [([], []), ([], []), ([], []), ([1, 2], [1, 2]), ([3], [3]), ([0, 4], [0, 4]), ([5], [5]), ([6], [6]), ([6], [6]), ([], []), ([9, 7, 5, 0, 1, 2, 3, 4, 5, 6, 7, 9], [7, 9]), ([8, 10, 0, 1, 2, 3, 4, 5, 6, 7, 8, 9, 10], [8])])
def l13_JournalTorn.B11 : List Nat := [0, 0, 0, 6, 14, 31, 63, 127, 127, 0, 767, 2047]
theorem l13_JournalTorn.tab11 : rtab .any (opsOf Tryd.f16 11) = l13_JournalTorn.T11 := by kernel_rfl
theorem l13_JournalTorn.bits11 : waitsOk l13_JournalTorn.T11.2 l13_JournalTorn.B11 = true := by kernel_rfl
def l13_JournalTorn.T21 : Bool × List (List Nat × List Nat) := (true, [([], []), ([0], [0]), ([1], [1]), ([2], [2]), ([3, 2], [2, 3]), ([4, 2, 2], [2, 4]), ([5], [5]), ([6, 5], [5, 6]), ([7, 5], [5, 7]), ([8, 5], [5, 8]), ([5, 9, 2], [2, 5, 9]), ([10, 5, 2], [2, 10]), ([11], [11]), ([12, 11], [11, 12]), ([13, 11], [11, 13]), ([11, 14, 2], [2, 11, 14]), ([2, 15], [2, 15]), ([16, 11], [16]), ([17], [17]), ([18, 17], [17, 18]), ([19, 17, 17], [17, 19]), ([20], [20]), ([20], [20]), ([20], [20]), ([23, 20], [20, 23]), ([22, 24, 20], [20, 22, 24]), ([25, 20], [20, 25]), ([21, 26, 20], [20, 21, 26]), ([27, 20, 20], [20, 27]), ([28], [28]), ([29, 28], [28, 29]), ([28], [28]), ([28], [28]), ([32, 28], [28, 32]), ([31, 33, 28], [28, 31, 33]), ([34, 28], [28, 34]), ([35, 28], [28, 35]), ([30, 36, 28], [28, 30, 36]), ([28, 37, 20], [20, 28, 37]), ([38, 28, 20], [20, 38]), ([39], [39]), ([40, 39], [39, 40]), ([39], [39]), ([39], [39]), ([43, 39], [39, 43]), ([42, 44, 39], [39, 42, 44]), ([45, 39], [39, 45]), ([46, 39], [39, 46]), ([41, 47, 39], [39, 41, 47]), ([39, 48, 20], [20, 39, 48]), ([49, 39, 20], [20, 49]), ([50], [50]), ([51, 50], [50, 51]), ([52, 50], [50, 52]), ([50], [50]), ([53, 54, 50], [50, 53, 54]), ([50, 55, 20], [20, 50, 55]), ([20, 56, 17], [17, 20, 56]), ([17, 57], [17, 57])])
def l13_JournalTorn.B21 : List Nat := [0, 1, 3, 7, 15, 31, 63, 127, 255, 511, 1023, 2047, 4095, 8191, 16383, 32767, 65535, 131071, 262143, 524287, 1048575, 2097151, 2097151, 2097151, 10485759, 31457279, 65011711, 134217727, 268435455, 536870911, 1073741823, 536870911, 536870911, 4831838207, 15569256447, 32749125631, 67108863999, 137438953471, 274877906943, 549755813887, 1099511627775, 2199023255551, 1099511627775, 1099511627775, 9895604649983, 31885837205503, 67070209294335, 137438953471999, 281474976710655, 562949953421311, 1125899906842623, 2251799813685247, 4503599627370495, 9007199254740991, 2251799813685247, 36028797018963967, 72057594037927935, 144115188075855871, 288230376151711743]
theorem l13_JournalTorn.tab21 : rtab .any (opsOf Tryd.f16 21) = l13_JournalTorn.T21 := by kernel_rfl
theorem l13_JournalTorn.bits21 : waitsOk l13_JournalTorn.T21.2 l13_JournalTorn.B21 = true := by kernel_rfl
def l13_JournalTorn.T26 : Bool × List (List Nat × List Nat) := (true, [([], []), ([0], [0]), ([], []), ([], []), ([2, 3], [2, 3]), ([1, 4], [1, 4]), ([5], [5]), ([6], [6]), ([7], [7]), ([7], [7]), ([8, 6, 0, 1, 2, 3, 4, 5, 6, 7, 8], [8]), ([9, 10, 0, 1, 2, 3, 4, 5, 6, 7, 8, 9, 10], [9])])
def l13_JournalTorn.B26 : List Nat := [0, 1, 0, 0, 12, 31, 63, 127, 255, 255, 511, 2047]
theorem l13_JournalTorn.tab26 : rtab .any (opsOf Tryd.f16 26) = l13_JournalTorn.T26 := by kernel_rfl
theorem l13_JournalTorn.bits26 : waitsOk l13_JournalTorn.T26.2 l13_JournalTorn.B26 = true := by kernel_rfl
set_option maxHeartbeats 8000000 in
set_option maxRecDepth 100000 in
theorem l13_JournalTorn.calls (k : Nat) (a0 : Int) (A1 : Option Addr) (c1 : Nat) (l1 : List (List (S24))) (a2 : Int) (a3 : Int) (r : Bool) (w : World) (hr1 : Kd.C (Kd.slice 24 k24) w A1 l1.length l1) (hc1 : l1.length ≤ c1) (h : l13_JournalTorn.f k a0 l1 a2 a3 = some r) (HT : Tabs w) :
  Calls Tryd.prog 16 #[.int .u64 a0, .slice A1 l1.length c1, .int .i64 a2, .int .i64 a3] w fun e w' => e = .returned (.bool r) ∧ Below w.heap.size w w' := by
 have hu66 := Tryd.underlying66
 have hu24 := Tryd.underlying24
 have HR1 := Ax.mk hr1
 have HC1 := Ax.mk hc1
 clear hr1 hc1
 have HB := Ax.mk (Below.refl w.heap.size w)
 have H : ((l13_shown.f k).bind fun t337 => ((l13_short.f k l1).bind fun t338 => (if t337 = true then (if t338 = true then (l13_JournalTorn.j0 k a0 l1 a2 a3 t337 (decide (a0 > 1099511627776))) else (l13_JournalTorn.j0 k a0 l1 a2 a3 t337 true)) else (l13_JournalTorn.j0 k a0 l1 a2 a3 t337 true)))) = some r := h
 clear h
 replace H := Option.bind_eq_some_iff.mp H
 obtain ⟨t337, A50, H⟩ := H
 replace H : ((l13_short.f k l1).bind fun t338 => (if t337 = true then (if t338 = true then (l13_JournalTorn.j0 k a0 l1 a2 a3 t337 (decide (a0 > 1099511627776))) else (l13_JournalTorn.j0 k a0 l1 a2 a3 t337 true)) else (l13_JournalTorn.j0 k a0 l1 a2 a3 t337 true))) = some r := H
 have A5 := Ax.mk A50
 clear A50
 replace H := Option.bind_eq_some_iff.mp H
 obtain ⟨t338, A60, H⟩ := H
 replace H : (if t337 = true then (if t338 = true then (l13_JournalTorn.j0 k a0 l1 a2 a3 t337 (decide (a0 > 1099511627776))) else (l13_JournalTorn.j0 k a0 l1 a2 a3 t337 true)) else (l13_JournalTorn.j0 k a0 l1 a2 a3 t337 true)) = some r := H
 have A6 := Ax.mk A60
 clear A60
 have HC7 := Ax.mk H
 clear H
 go_enter Tryd.func16, Tryd.ntmps16
 go_upto_region 3 with (first | ((with_reducible refine gate_callee (f := 31) rfl ?_); refine goesL_ (some 24) rfl rfl Tryd.func31 (by kernel_rfl) rfl #[] rfl (by (try simp only [List.map_toArray, List.map_cons, List.map_nil]); first | done | rfl | (simp only [List.length_drop, List.length_take]; rfl) | (rw [wrap_sum2 (by assumption)]; rfl)) ?_; (with_reducible refine (l13_shown.calls k  t337 _ A5.out (HT.below bA)).mono ?_); rintro e w8 ⟨rfl, hb⟩; refine ⟨_, rfl, ?_⟩; have n0_ := Ax.mk (bP bA hb); clear HB; have HB := n0_; clear n0_; (try clear hb); (try clear hb2); (try clear hk); (try clear hi)) | ((with_reducible refine gate_callee (f := 33) rfl ?_); refine goesL_ (some 26) rfl rfl Tryd.func33 (by kernel_rfl) rfl #[.slice A1 l1.length c1] rfl (by (try simp only [List.map_toArray, List.map_cons, List.map_nil]); first | done | rfl | (simp only [List.length_drop, List.length_take]; rfl) | (rw [wrap_sum2 (by assumption)]; rfl)) ?_; (with_reducible refine (l13_short.calls k _ _ l1 t338 _ ?side1 ?side2 A6.out).mono ?_); (case side1 => repeat (first | exact (Kd.C_below HR1.out HB.out) | (with_reducible refine Kd.C_alloc ?_ _) | (with_reducible refine Kd.C_drewN ?_ _) | (with_reducible refine Kd.C_drew ?_))); (case side2 => exact HC1.out); rintro e w' ⟨rfl, ⟨nd, rfl⟩⟩; refine ⟨_, rfl, ?_⟩))
 (try simp only [Act.put, sI, sZ, sS])
 go_cut [36] (fun v36 wc => ∃ (kq : Nat) (x36_6 : Bool), v36 = .bool x36_6 ∧ Ax (l13_JournalTorn.j0 kq a0 l1 a2 a3 t337 x36_6 = some r) ∧ Ax (kq ≤ k) ∧ Ax (Below w.heap.size w wc))
 case first =>
  have H := HC7.out
  clear HC7
  by_cases c9 : t337 = true
  ·subst c9
   have H1 : (if t338 = true then (l13_JournalTorn.j0 k a0 l1 a2 a3 true (decide (a0 > 1099511627776))) else (l13_JournalTorn.j0 k a0 l1 a2 a3 true true)) = some r := by rw [if_pos rfl] at H; exact H
   clear H
   have H := H1
   clear H1
   by_cases c10 : t338 = true
   ·subst c10
    have H1 : (l13_JournalTorn.j0 k a0 l1 a2 a3 true (decide (a0 > 1099511627776))) = some r := by rw [if_pos rfl] at H; exact H
    clear H
    have H := H1
    clear H1
    have H' := Ax.mk H
    clear H
    go_wp2
    go_meet
    case rel => exact ⟨_, (decide (a0 > 1099511627776)), (by first | rfl | (simp; done) | (simp [*]; done)), H', ⟨by first | omega | exact Nat.le_refl _⟩, ⟨bA⟩⟩
   ·replace c10 := Bool.eq_false_iff.mpr c10
    subst c10
    have H1 : (l13_JournalTorn.j0 k a0 l1 a2 a3 true true) = some r := by rw [if_neg (show ¬ (false = true) by decide)] at H; exact H
    clear H
    have H := H1
    clear H1
    have H' := Ax.mk H
    clear H
    go_wp2
    go_meet
    case rel => exact ⟨_, (true), (by first | rfl | (simp; done) | (simp [*]; done)), H', ⟨by first | omega | exact Nat.le_refl _⟩, ⟨bA⟩⟩
  ·replace c9 := Bool.eq_false_iff.mpr c9
   subst c9
   have H1 : (l13_JournalTorn.j0 k a0 l1 a2 a3 false true) = some r := by rw [if_neg (show ¬ (false = true) by decide)] at H; exact H
   clear H
   have H := H1
   clear H1
   have H' := Ax.mk H
   clear H
   go_wp2
   go_meet
   case rel => exact ⟨_, (true), (by first | rfl | (simp; done) | (simp [*]; done)), H', ⟨by first | omega | exact Nat.le_refl _⟩, ⟨bA⟩⟩
 case rest =>
  clear HC7
  try clear c1
  try clear p2
  try clear c3
  try clear c9
  try clear c10
  obtain ⟨kq, x36_6, rfl, HA, HJ6, HB⟩ := hcut
  cases kq with
  | zero => exact absurd HA.out (by simp [l13_JournalTorn.j0])
  | succ kj6 =>
   have H := HA.out
   clear HA
   simp only [l13_JournalTorn.j0] at H
   by_cases c11 : x36_6 = true
   ·subst c11
    have H1 : (some t337) = some r := by rw [if_pos rfl] at H; exact H
    clear H
    have H := H1
    clear H1
    obtain rfl := Option.some.inj H
    go_wp2
    go_ret
    exact ⟨by first | rfl | (simp [errW_none, errW_some] <;> rfl) | (simp [*, errW_none, errW_some] <;> rfl), bA⟩
   ·replace c11 := Bool.eq_false_iff.mpr c11
    subst c11
    have H1 : ((journal_New.f kj6 a0 ([] : List (S24))).bind fun bt339 => (l13_JournalTorn.l0 kj6 l1 a2 a3 (([(bt339.2.2.1.size : Int)] : List Int)) (([(⟨bt339.1, bt339.2.1, bt339.2.2.1⟩ : S66)] : List (S66))) 0 bt339.1 bt339.2.1 bt339.2.2.1)) = some r := by rw [if_neg (show ¬ (false = true) by decide)] at H; exact H
    clear H
    have H := H1
    clear H1
    replace H := Option.bind_eq_some_iff.mp H
    obtain ⟨⟨t339, t340, t343, t344⟩, A120, H⟩ := H
    replace H : (l13_JournalTorn.l0 kj6 l1 a2 a3 (([(t343.size : Int)] : List Int)) (([(⟨t339, t340, t343⟩ : S66)] : List (S66))) 0 t339 t340 t343) = some r := H
    have A12 := Ax.mk A120
    clear A120
    obtain ⟨y346, hy346⟩ : ∃ y_ : List Int, y_ = (([(t343.size : Int)] : List Int)) := ⟨_, rfl⟩
    replace H : (l13_JournalTorn.l0 kj6 l1 a2 a3 y346 (([(⟨t339, t340, t343⟩ : S66)] : List (S66))) 0 t339 t340 t343) = some r := by first | (rw [hy346]; with_reducible exact H) | (have H2_ := (Option.bind_some _ _).symm.trans H; rw [hy346]; with_reducible exact H2_) | (have H2_ := (Option.bind_some _ _).symm.trans H; with_reducible exact H2_) | with_reducible exact H | (rw [hy346]; exact H) | exact H
    have Ny346 := Ax.mk hy346
    clear hy346
    obtain ⟨y349, hy349⟩ : ∃ y_ : List (S66), y_ = (([(⟨t339, t340, t343⟩ : S66)] : List (S66))) := ⟨_, rfl⟩
    replace H : (l13_JournalTorn.l0 kj6 l1 a2 a3 y346 y349 0 t339 t340 t343) = some r := by first | (rw [hy349]; with_reducible exact H) | (have H2_ := (Option.bind_some _ _).symm.trans H; rw [hy349]; with_reducible exact H2_) | (have H2_ := (Option.bind_some _ _).symm.trans H; with_reducible exact H2_) | with_reducible exact H | (rw [hy349]; exact H) | exact H
    have Ny349 := Ax.mk hy349
    clear hy349
    have H' := Ax.mk H
    clear H
    go_wp2_with (first | ((with_reducible refine gate_callee (f := 38) rfl ?_); refine goesL_ (some 40) rfl rfl Tryd.func38 (by kernel_rfl) rfl #[.int .u64 a0, .slice none 0 0] rfl (by (try simp only [List.map_toArray, List.map_cons, List.map_nil]); first | done | rfl | (simp only [List.length_drop, List.length_take]; rfl) | (rw [wrap_sum2 (by assumption)]; rfl)) ?_; (refine (journal_New.calls kj6 a0 _ _ ([] : List (S24)) t339 t340 t343 t344 _ ?side1 ?side2 A12.out (HT.below bA)).mono ?_); (case side1 => exact Kd.C_nil _ _); (case side2 => exact Nat.le_refl _); rintro e w13 ⟨v341, rfl, ho0, hb⟩; refine ⟨_, rfl, ?_⟩; have n0_ := Ax.mk (Kd.N_lower (Kd.N_mono (ok' := fun k_ => True) ho0 (fun k_ hk_ => trivial)) (bS bA)); have n1_ := Ax.mk (bP bA hb); clear HB; have HO342 := n0_; have HB := n1_; clear n0_ n1_; (try clear hb); (try clear hb2); (try clear hk); (try clear hi); (try clear ho0)) | ((with_reducible refine gate_dst (N := 11) rfl ?_); (try (refine gate_guard (by rfl) ?_; dsimp only)); refine box_event ?hg (N := 11) ?hd (cs := #[.int .u64 0, .slice none 0 0, .string (⟨#[]⟩ : ByteArray)]) (t := 66) ?hr ?_; (case hd => rfl); (case hg => rfl); (case hr => first | (go_simp; done) | (go_simp; rfl)); intro gb345 hg w14 hbox hb; have n0_ := Ax.mk (Kd.N_below (Kd.N_elderB (by exact Kd.N_to HO342.out) gb345 (Nat.le_of_eq hg.symm)) hb); have n1_ := Ax.mk (bP bA hb); have n2_ := Ax.mk (hbox); have n3_ := Ax.mk ((ge_new hg : w.heap.size ≤ gb345)); have n4_ := n3_; clear HO342; clear HB; have HO342 := n0_; have HB := n1_; have BK345 := n2_; have GW345 := n3_; have GE345 := n4_; clear n0_ n1_ n2_ n3_ n4_; clear hb hbox hg; have hcz15_0 : w14.cell? ⟨gb345, 0, none⟩ = some (.int .u64 0) := (bC BK345.out 0).trans rfl; have hcz15_1 : w14.cell? ⟨gb345, 1, none⟩ = some (.slice none 0 0) := (bC BK345.out 1).trans rfl; have hcz15_2 : w14.cell? ⟨gb345, 2, none⟩ = some (.string (⟨#[]⟩ : ByteArray)) := (bC BK345.out 2).trans rfl; have hfz15_0 := bF BK345.out 0; have hfz15_1 := bF BK345.out 1; have hfz15_2 := bF BK345.out 2; obtain ⟨Ao16, co16, eo16⟩ := Kd.N_slice HO342.out; subst eo16) | ((with_reducible refine gate_dst (N := 46) rfl ?_); (try (refine gate_guard (by rfl) ?_; dsimp only)); refine Kd.R_lit (Kd.int .i64) _ 3 ?hg (N := 46) ?hd (xs := ([(t343.size : Int)] : List Int)) (inner := [.int .i64 (t343.size : Int)]) (ok := fun _ => True) (okp := fun _ => True) ?hr ?hp (fun _ hk => hk) trivial (Below.refl _ _) (Nat.le_refl _) (by simp) ?_; (case hd => rfl); (case hg => rfl); (case hr => first | (go_simp; done) | (go_simp; rfl)); (case hp => exact (Reps.one (show Kd.M (Kd.int .i64) _ _ _ (t343.size : Int) [.int .i64 (t343.size : Int)] from rfl) (Reps.none _ _))); intro v347 w17 ho18 hb hg_ hnew_; clear hg_ hnew_; (first | rw [← Ny346.out] at ho18 | (simp only [Int.reduceToNat] at ho18; rw [← Ny346.out] at ho18)); have n0_ := Ax.mk (Kd.N_elder' (by apply Kd.N_to; exact (Kd.N_mono (Kd.N_far (p := ⟨gb345, 2, none⟩) (Kd.N_far (p := ⟨gb345, 1, none⟩) (Kd.N_far (p := ⟨gb345, 0, none⟩) (Kd.N_mono HO342.out (fun k_ hk => (⟨hk, hk.2⟩ : _ ∧ k_ ≠ gb345))) (fun _ hk => hk.2) (.int .u64 t339)) (fun _ hk => hk.2) (.slice Ao16 t340.length co16)) (fun _ hk => hk.2) (.string t343)) (fun _ h_ => h_.1))) (Kd.R_base ho18) hb); have n1_ := Ax.mk (Kd.R_lower ho18 (bS bA)); have n2_ := Ax.mk (bB (g := gb345) (o := .cells #[.int .u64 t339, .slice Ao16 t340.length co16, .string t343] 66 (0, 0)) (by refine bT ?_; refine bU (cs := #[.int .u64 t339, .slice Ao16 t340.length co16, .string (⟨#[]⟩ : ByteArray)]) ?_ 2 _ rfl; refine bT ?_; refine bU (cs := #[.int .u64 t339, .slice none 0 0, .string (⟨#[]⟩ : ByteArray)]) ?_ 1 _ rfl; refine bT ?_; refine bU (cs := #[.int .u64 0, .slice none 0 0, .string (⟨#[]⟩ : ByteArray)]) ?_ 0 _ rfl; exact bT BK345.out) hb); have n3_ := Ax.mk (bP bA hb); clear HO342; clear BK345; clear HB; have HO342 := n0_; have HO348 := n1_; have BK345 := n2_; have HB := n3_; clear n0_ n1_ n2_ n3_; clear hb ho18; have hcz19_0 : w17.cell? ⟨gb345, 0, none⟩ = some (.int .u64 t339) := (bC BK345.out 0).trans rfl; have hcz19_1 : w17.cell? ⟨gb345, 1, none⟩ = some (.slice Ao16 t340.length co16) := (bC BK345.out 1).trans rfl; have hcz19_2 : w17.cell? ⟨gb345, 2, none⟩ = some (.string t343) := (bC BK345.out 2).trans rfl; have hfz19_0 := bF BK345.out 0; have hfz19_1 := bF BK345.out 1; have hfz19_2 := bF BK345.out 2) | ((with_reducible refine gate_dst (N := 48) rfl ?_); (try (refine gate_guard (by rfl) ?_; dsimp only)); refine Kd.N_lit k66 _ 66 ?hg (N' := 48) ?hd (xs := ([(⟨t339, t340, t343⟩ : S66)] : List (S66))) (inner := [.int .u64 t339, .slice Ao16 t340.length co16, .string t343]) (ok := (fun k_ => some k_ ≠ (v347 : Value).ownBlock ∧ k_ ≠ gb345)) (okp := (fun k_ => some k_ ≠ (v347 : Value).ownBlock ∧ k_ ≠ gb345)) ?hr ?hp (fun _ hk => hk) ((show ∀ k_, w17.heap.size ≤ k_ → (fun k_ => some k_ ≠ (v347 : Value).ownBlock ∧ k_ ≠ gb345) k_ from fun k_ hk => ⟨Kd.fresh' (Kd.R_lt (by exact Kd.R_to HO348.out)) k_ hk, Kd.freshB (g := gb345) (o := .cells #[.int .u64 t339, .slice Ao16 t340.length co16, .string t343] 66 (0, 0)) (bT BK345.out) k_ hk⟩) _ (Nat.le_refl _)) (Below.refl _ _) (Nat.le_refl _) (by simp) ?_; (case hd => rfl); (case hg => rfl); (case hr => first | (go_simp; done) | (go_simp; rfl)); (case hp => exact (Reps.c3 (show Kd.FK k66 _ _ (⟨t339, t340, t343⟩ : S66) [.int .u64 t339, .slice Ao16 t340.length co16, .string t343] from (k66_mkF _ _ (⟨t339, t340, t343⟩ : S66) (Kd.N_reads' (Kd.N_mono (ok' := (fun k_ => some k_ ≠ (v347 : Value).ownBlock ∧ k_ ≠ gb345)) (HO342.out) (fun k_ hk => ⟨hk.2, hk.1.2⟩))).2.1 (Kd.N_F (Kd.N_mono (ok' := (fun k_ => some k_ ≠ (v347 : Value).ownBlock ∧ k_ ≠ gb345)) (HO342.out) (fun k_ hk => ⟨hk.2, hk.1.2⟩))))) (Reps.none _ _))); intro v350 w20 ho21 hb hg_ hnew_; clear hg_ hnew_; (first | rw [← Ny349.out] at ho21 | (simp only [Int.reduceToNat] at ho21; rw [← Ny349.out] at ho21)); have n0_ := Ax.mk (Kd.N_elder' (by exact Kd.N_to HO342.out) (Kd.N_base ho21) hb); have n1_ := Ax.mk (Kd.R_below (by exact Kd.R_to HO348.out) hb); have n2_ := Ax.mk (Kd.N_lower ho21 (bS bA)); have n3_ := Ax.mk (bB (bT BK345.out) hb); have n4_ := Ax.mk (bP bA hb); clear HO342; clear HO348; clear BK345; clear HB; have HO342 := n0_; have HO348 := n1_; have HO351 := n2_; have BK345 := n3_; have HB := n4_; clear n0_ n1_ n2_ n3_ n4_; clear hb ho21))
    go_loopg [13, 14, 15] kj6 (fun kq v13 v14 v15 w' => ∃ (x13_2 : List Int) (x14_2 : List (S66)) (x15_2 : Int) (x346000_2 : Int) (x346001_2 : List (S44)) (x346002_2 : ByteArray) (u346001 : Value), v15 = .int .i64 x15_2 ∧ Ax (l13_JournalTorn.l0 kq l1 a2 a3 x13_2 x14_2 x15_2 x346000_2 x346001_2 x346002_2 = some r) ∧ Ax (kq ≤ kj6) ∧ Ax (Kd.R (Kd.int .i64) 3 w' w.heap.size (fun _ => True) v13 x13_2) ∧ Ax (Kd.N k66 66 w' w.heap.size (fun k_ => some k_ ≠ (v13 : Value).ownBlock ∧ k_ ≠ gb345) v14 x14_2) ∧ Ax (Kd.N k44 44 w' w.heap.size (fun k_ => some k_ ≠ (v13 : Value).ownBlock ∧ some k_ ≠ (v14 : Value).ownBlock ∧ k_ ≠ gb345) u346001 x346001_2) ∧ Ax (w'.heap[gb345]? = some (.cells #[.int .u64 x346000_2, u346001, .string x346002_2] 66 (0, 0))) ∧ Ax (Below w.heap.size w w'))
    case atStart => exact ⟨(y346), (y349), (0), (t339), (t340), (t343), (.slice Ao16 t340.length co16), (by first | rfl | (simp; done) | (simp [*]; done)), H', ⟨Nat.le_refl _⟩, ⟨by apply Kd.R_to; exact HO348.out⟩, ⟨by apply Kd.N_to; exact HO351.out⟩, ⟨by apply Kd.N_to; exact Kd.N_mono HO342.out (fun _ hk => ⟨hk.1.2, ⟨hk.2, hk.1.1.2⟩⟩)⟩, ⟨by refine bT ?_; exact BK345.out⟩, ⟨bA⟩⟩
    case round =>
     clear H'
     try clear c1
     try clear p2
     try clear c3
     try clear c9
     try clear c10
     try clear c11
     try clear c16
     try clear hcz15_0
     try clear hcz15_1
     try clear hcz15_2
     try clear hcz19_0
     try clear hcz19_1
     try clear hcz19_2
     try clear hfz15_0
     try clear hfz15_1
     try clear hfz15_2
     try clear hfz19_0
     try clear hfz19_1
     try clear hfz19_2
     try clear p2
     obtain ⟨x13_2, x14_2, x15_2, x346000_2, x346001_2, x346002_2, u346001, rfl, HA, HK2, HO_13, HO_14, HO_346001, BK345, HB⟩ := hrel
     cases gk with
     | zero => exact absurd HA.out (by simp [l13_JournalTorn.l0])
     | succ k2 =>
      have H := HA.out
      clear HA
      simp only [l13_JournalTorn.l0] at H
      by_cases c22 : x15_2 < (l1.length : Int)
      ·rw [if_pos c22] at H
       have c22b0 : decide (x15_2 < (l1.length : Int)) = true := decide_eq_true c22
       clear c22
       by_cases c23 : 0 ≤ x15_2
       ·rw [if_pos c23] at H
        have c23b0 : decide (0 ≤ x15_2) = true := decide_eq_true c23
        clear c23
        replace H := Option.bind_eq_some_iff.mp H
        obtain ⟨⟨t353, t354, t357, t358⟩, A240, H⟩ := H
        replace H : (if t358 = 0 then (if x13_2.length < 17592186044416 then (if x14_2.length < 2932031007402 then (l13_JournalTorn.l0 k2 l1 a2 a3 (x13_2 ++ [(t357.size : Int)]) (x14_2 ++ [(⟨t353, t354, t357⟩ : S66)]) (wrap64 (x15_2 + 1)) t353 t354 t357) else (none)) else (none)) else (l13_JournalTorn.l0 k2 l1 a2 a3 x13_2 x14_2 (wrap64 (x15_2 + 1)) x346000_2 x346001_2 x346002_2)) = some r := H
        have A24 := Ax.mk A240
        clear A240
        by_cases c25 : t358 = 0
        ·rw [if_pos c25] at H
         have c25b0 : (t358 == 0) = true := beq_iff_eq.mpr c25
         have c25b1 : (t358 != 0) = false := bne_eq_false_iff_eq.mpr c25
         clear c25
         by_cases c26 : x13_2.length < 17592186044416
         ·rw [if_pos c26] at H
          have LMc26 := Ax.mk c26
          clear c26
          obtain ⟨y360, hy360⟩ : ∃ y_ : List Int, y_ = (x13_2 ++ [(t357.size : Int)]) := ⟨_, rfl⟩
          replace H : (if x14_2.length < 2932031007402 then (l13_JournalTorn.l0 k2 l1 a2 a3 y360 (x14_2 ++ [(⟨t353, t354, t357⟩ : S66)]) (wrap64 (x15_2 + 1)) t353 t354 t357) else (none)) = some r := by first | (rw [hy360]; with_reducible exact H) | (have H2_ := (Option.bind_some _ _).symm.trans H; rw [hy360]; with_reducible exact H2_) | (have H2_ := (Option.bind_some _ _).symm.trans H; with_reducible exact H2_) | with_reducible exact H | (rw [hy360]; exact H) | exact H
          have Ny360 := Ax.mk hy360
          clear hy360
          by_cases c27 : x14_2.length < 2932031007402
          ·rw [if_pos c27] at H
           have LMc27 := Ax.mk c27
           clear c27
           obtain ⟨y363, hy363⟩ : ∃ y_ : List (S66), y_ = (x14_2 ++ [(⟨t353, t354, t357⟩ : S66)]) := ⟨_, rfl⟩
           replace H : (l13_JournalTorn.l0 k2 l1 a2 a3 y360 y363 (wrap64 (x15_2 + 1)) t353 t354 t357) = some r := by first | (rw [hy363]; with_reducible exact H) | (have H2_ := (Option.bind_some _ _).symm.trans H; rw [hy363]; with_reducible exact H2_) | (have H2_ := (Option.bind_some _ _).symm.trans H; with_reducible exact H2_) | with_reducible exact H | (rw [hy363]; exact H) | exact H
           have Ny363 := Ax.mk hy363
           clear hy363
           have H' := Ax.mk H
           clear H
           obtain ⟨Ao28, co28, eo28⟩ := Kd.N_slice HO_346001.out
           subst eo28
           try go_wp2
           have n0_ := Ax.mk (Kd.R_drew HO_13.out)
           have n1_ := Ax.mk (Kd.N_drew HO_14.out)
           have n2_ := Ax.mk (Kd.N_drew HO_346001.out)
           have n3_ := Ax.mk (blk_drew BK345.out)
           have n4_ := Ax.mk (below_drew1 HB.out)
           clear HO_13
           clear HO_14
           clear HO_346001
           clear BK345
           clear HB
           have HO_13 := n0_
           have HO_14 := n1_
           have HO_346001 := n2_
           have BK345 := n3_
           have HB := n4_
           clear n0_ n1_ n2_ n3_ n4_
           have p352 : 0 ≤ (x15_2 : Int) := ofD
           have q352 : x15_2 < (l1.length : Int) := ofD
           obtain ⟨ad352, A352_0, c352_0, e352, hx352_0, hl352_0, hi352_0⟩ := at_L4 HR1.out x15_2 p352 q352
           have hw352_0 := hx352_0
           cases e352
           replace hx352_0 := (HB.out.cell (World.block_lt_of_cell? w _ hx352_0)).trans hx352_0
           have HR352_0 := Ax.mk hi352_0
           have HC352_0 := Ax.mk hl352_0
           clear hi352_0 hl352_0
           replace p352 := eq_true p352
           replace q352 := eq_true q352
           refine start_ (n := 12) (S := fun w' => w'.cell? ⟨gb345, 0, none⟩ = some (.int .u64 x346000_2) ∧ w'.cell? ⟨gb345, 1, none⟩ = some (.slice Ao28 x346001_2.length co28) ∧ w'.cell? ⟨gb345, 2, none⟩ = some (.string x346002_2) ∧ w'.cell? (ad352.add (x15_2).toNat) = some (.slice A352_0 (rd_L4 l1 x15_2).length c352_0)) (ds := []) (TF 0 12) (by kernel_rfl) rfl rfl ⟨(bC BK345.out 0).trans rfl, (bC BK345.out 1).trans rfl, (bC BK345.out 2).trans rfl, ((HB.out.cell (World.block_lt_of_cell? w _ hw352_0)).trans hw352_0)⟩ (fun hHeld => ?_); refine with_tabW l13_JournalTorn.tab11 l13_JournalTorn.bits11 (fun HT_ HW_ => ?_)
           generalize wr.drew = w29 at HO_13 HO_14 HO_346001 BK345 HB HR352_0 hx352_0 hHeld ⊢
           refine pure_ (i := 1) (N := some 57) (v := ?_) (a' := ?_) (BT 12 2) rfl rfl (any_of HT_.out (by kernel_rfl)) (fun _ _ _ h => h) (Or.inl ⟨by rfl, ?_⟩) ?_ ?_
           rotate_left; · intro w'; go_simp; with_reducible rfl
           rotate_left; · simp only [Act.put, sI, sZ, sS, i64_w, i32_w]; rfl
           refine pure_ (i := 2) (N := some 58) (v := ?_) (a' := ?_) (BT 12 6) rfl rfl (any_of HT_.out (by kernel_rfl)) (fun _ _ _ h => h) (Or.inl ⟨by rfl, ?_⟩) ?_ ?_
           rotate_left; · intro w'; go_simp; with_reducible rfl
           rotate_left; · simp only [Act.put, sI, sZ, sS, i64_w, i32_w]; rfl
           refine pure_ (i := 3) (N := some 59) (v := ?_) (a' := ?_) (BT 12 14) rfl rfl (any_of HT_.out (by kernel_rfl)) (fun _ _ _ h => h) (Or.inl ⟨by rfl, ?_⟩) ?_ ?_
           rotate_left; · intro w'; go_simp; with_reducible rfl
           rotate_left; · simp only [Act.put, sI, sZ, sS, i64_w, i32_w]; rfl
           refine take_ (i := 0) (N := some 56) (v := ?_) (a' := ?_) (TF 4 8) rfl rfl (take_ofW HT_.out HW_.out (by kernel_rfl)) (fun _ _ _ h => h) (Or.inl ⟨by rfl, ?_⟩) hHeld ?_ ?_
           rotate_left
           ·rintro w' ⟨s0, s1, s2, s3⟩
            go_simp
            with_reducible rfl
           rotate_left
           ·simp only [Act.put, sI, sZ, sS, i64_w, i32_w]
            rfl
           refine take_ (i := 4) (N := some 60) (v := ?_) (a' := ?_) (TF 5 7) rfl rfl (take_ofW HT_.out HW_.out (by kernel_rfl)) (fun _ _ _ h => h) (Or.inl ⟨by rfl, ?_⟩) hHeld ?_ ?_
           rotate_left
           ·rintro w' ⟨s0, s1, s2, s3⟩
            go_simp
            with_reducible rfl
           rotate_left
           ·simp only [Act.put, sI, sZ, sS, i64_w, i32_w]
            rfl
           refine join_ (σ := Value × Nat) 2 (TF 10 2) (fun s_ => [(61, .tuple #[.agg #[.int .u64 t353, s_.1, .string t357], .int .i64 t358]), (16, .pointer (some ⟨s_.2, 0, none⟩)), (55, .tuple #[.agg #[.int .u64 t353, s_.1, .string t357], .int .i64 t358]), (62, .agg #[.int .u64 t353, s_.1, .string t357]), (63, .int .i64 t358)]) (fun s_ w' => (w'.cell? ⟨gb345, 0, none⟩ = some (.int .u64 x346000_2) ∧ w'.cell? ⟨gb345, 1, none⟩ = some (.slice Ao28 x346001_2.length co28) ∧ w'.cell? ⟨gb345, 2, none⟩ = some (.string x346002_2) ∧ w'.cell? (ad352.add (x15_2).toNat) = some (.slice A352_0 (rd_L4 l1 x15_2).length c352_0)) ∧ (Kd.N k44 44 w' w.heap.size (fun k_ => some k_ ≠ (u13 : Value).ownBlock ∧ some k_ ≠ (u14 : Value).ownBlock ∧ k_ ≠ gb345 ∧ k_ ≠ s_.2) s_.1 t354) ∧ (Kd.R (Kd.int .i64) 3 w' w.heap.size (fun _ => True) u13 x13_2) ∧ (Kd.N k66 66 w' w.heap.size (fun k_ => some k_ ≠ (s_.1 : Value).ownBlock ∧ some k_ ≠ (u13 : Value).ownBlock ∧ k_ ≠ gb345 ∧ k_ ≠ s_.2) u14 x14_2) ∧ (Kd.N k44 44 w' w.heap.size (fun k_ => some k_ ≠ (s_.1 : Value).ownBlock ∧ some k_ ≠ (u13 : Value).ownBlock ∧ some k_ ≠ (u14 : Value).ownBlock ∧ k_ ≠ gb345 ∧ k_ ≠ s_.2) (.slice Ao28 x346001_2.length co28) x346001_2) ∧ (w'.heap[gb345]? = some (.cells #[.int .u64 x346000_2, .slice Ao28 x346001_2.length co28, .string x346002_2] 66 (0, 0))) ∧ (w'.heap[s_.2]? = some (.cells #[.int .u64 0, .slice none 0 0, .string (⟨#[]⟩ : ByteArray)] 66 (0, 0))) ∧ (w.heap.size ≤ s_.2) ∧ (w.heap.size ≤ s_.2) ∧ (gb345 ≠ s_.2) ∧ (s_.2 ≠ gb345) ∧ (Below w.heap.size w w')) ?_ ?_
           rotate_left
           ·intro hCont
            refine two_ (i := 5) (j := 9) (Ni := some 61) (Nj := some 16) (TF 6 6) (BT 12 543) rfl rfl rfl rfl (two_of HT_.out (by kernel_rfl)) (by decide) (by decide) (fun K hK => ?_) (fun K hK => ?_)
            ·skip
             refine goes_ Tryd.func39 (by kernel_rfl) rfl #[.agg #[.int .u64 x346000_2, .slice Ao28 x346001_2.length co28, .string x346002_2], .slice A352_0 (rd_L4 l1 x15_2).length c352_0] (by rfl) rfl rfl (by (try simp only [List.map_toArray, List.map_cons, List.map_nil]); first | done | rfl | (simp only [List.length_drop, List.length_take]; rfl) | (rw [wrap_sum2 (by assumption)]; rfl)) ?_
             with_reducible refine (journal_Add.calls k2 x346000_2 (fun k_ => (some k_ ≠ (u13 : Value).ownBlock ∧ (some k_ ≠ (u14 : Value).ownBlock ∧ k_ ≠ gb345))) _ _ x346001_2 x346002_2 _ _ (rd_L4 l1 x15_2) t353 t354 t357 t358 _ ?side1 ?side2 ?side3 A24.out (HT.below bA)).mono ?_
             (case side1 => exact Kd.N_V (HO_346001.out))
             (case side2 => repeat (first | exact (Kd.C_below HR352_0.out HB.out) | (with_reducible refine Kd.C_alloc ?_ _) | (with_reducible refine Kd.C_drewN ?_ _) | (with_reducible refine Kd.C_drew ?_)))
             (case side3 => exact HC352_0.out)
             rintro e w30 ⟨v355, rfl, ho0, hb⟩
             refine ⟨_, rfl, ?_⟩
             have n0_ := Ax.mk (Kd.R_below (by exact Kd.R_to HO_13.out) hb)
             have n1_ := Ax.mk (Kd.N_elder' (by exact Kd.N_to HO_14.out) (Kd.N_base ho0) hb)
             have n2_ := Ax.mk (Kd.N_elder' (by exact Kd.N_to HO_346001.out) (Kd.N_base ho0) hb)
             have n3_ := Ax.mk (Kd.N_lower (Kd.N_mono (ok' := fun k_ => some k_ ≠ (u13 : Value).ownBlock ∧ some k_ ≠ (u14 : Value).ownBlock ∧ k_ ≠ gb345) ho0 (fun k_ hk_ => ⟨Or.elim hk_ (fun hs_ => hs_.1) (fun hn_ => (Kd.fresh' (Kd.R_lt (by exact Kd.R_to HO_13.out)) k_ hn_)), Or.elim hk_ (fun hs_ => hs_.2.1) (fun hn_ => (Kd.fresh' (Kd.N_lt (by exact Kd.N_to HO_14.out)) k_ hn_)), Or.elim hk_ (fun hs_ => hs_.2.2) (fun hn_ => (Kd.freshB (g := gb345) (o := .cells #[.int .u64 x346000_2, .slice Ao28 x346001_2.length co28, .string x346002_2] 66 (0, 0)) (bT BK345.out) k_ hn_))⟩)) (bS bA))
             have n4_ := Ax.mk (bB (bT BK345.out) hb)
             have n5_ := Ax.mk (bP bA hb)
             clear HO_13
             clear HO_14
             clear HO_346001
             clear BK345
             clear HB
             have HO_13 := n0_
             have HO_14 := n1_
             have HO_346001 := n2_
             have HO356 := n3_
             have BK345 := n4_
             have HB := n5_
             clear n0_ n1_ n2_ n3_ n4_ n5_
             (try clear hb)
             (try clear hb2)
             (try clear hk)
             (try clear hi)
             (try clear ho0)
             refine hK.out _ _ ⟨(bC BK345.out 0).trans rfl, (bC BK345.out 1).trans rfl, (bC BK345.out 2).trans rfl, ((HB.out.cell (World.block_lt_of_cell? w _ hw352_0)).trans hw352_0)⟩ (fun hHeld => ?_)
             clear hK K
             refine norm_ (a' := ?_) ?_ ?_
             rotate_left
             ·show Act.put _ (some 61) _ = _
              simp only [Act.put, sI, sZ, sS, i64_w, i32_w]
              rfl
             refine pure_ (i := 6) (N := some 55) (v := ?_) (a' := ?_) (TF 7 5) rfl rfl (any_of HT_.out (by kernel_rfl)) (fun _ _ _ h => h) (Or.inl ⟨by rfl, ?_⟩) ?_ ?_
             rotate_left; · intro w'; go_simp; with_reducible rfl
             rotate_left; · simp only [Act.put, sI, sZ, sS, i64_w, i32_w]; rfl
             refine pure_ (i := 7) (N := some 62) (v := ?_) (a' := ?_) (TF 8 4) rfl rfl (any_of HT_.out (by kernel_rfl)) (fun _ _ _ h => h) (Or.inl ⟨by rfl, ?_⟩) ?_ ?_
             rotate_left; · intro w'; go_simp; with_reducible rfl
             rotate_left; · simp only [Act.put, sI, sZ, sS, i64_w, i32_w]; rfl
             refine pure_ (i := 8) (N := some 63) (v := ?_) (a' := ?_) (TF 9 3) rfl rfl (any_of HT_.out (by kernel_rfl)) (fun _ _ _ h => h) (Or.inl ⟨by rfl, ?_⟩) ?_ ?_
             rotate_left; · intro w'; go_simp; with_reducible rfl
             rotate_left; · simp only [Act.put, sI, sZ, sS, i64_w, i32_w]; rfl
             refine one_ (i := 9) (N := some 16) (TF 10 2) rfl rfl (one_of HT_.out (by kernel_rfl)) (by decide) (fun K hK => ?_)
             refine box_step ?hg (N := 16) ?hd (cs := #[.int .u64 0, .slice none 0 0, .string (⟨#[]⟩ : ByteArray)]) (t := 66) ?hr ?_; (case hd => rfl); (case hg => rfl); (case hr => first | (go_simp; done) | (go_simp; rfl))
             intro gb359 hg w31 hbox hb
             have n0_ := Ax.mk (Kd.R_below (by exact Kd.R_to HO_13.out) hb)
             have n1_ := Ax.mk (Kd.N_below (Kd.N_elderB (by exact Kd.N_to HO_14.out) gb359 (Nat.le_of_eq hg.symm)) hb)
             have n2_ := Ax.mk (Kd.N_below (Kd.N_elderB (by exact Kd.N_to HO_346001.out) gb359 (Nat.le_of_eq hg.symm)) hb)
             have n3_ := Ax.mk (Kd.N_below (Kd.N_elderB (by exact Kd.N_to HO356.out) gb359 (Nat.le_of_eq hg.symm)) hb)
             have n4_ := Ax.mk (bB (bT BK345.out) hb)
             have n5_ := Ax.mk (bP bA hb)
             have n6_ := Ax.mk (hbox)
             have n7_ := Ax.mk ((ge_new hg : w.heap.size ≤ gb359))
             have n8_ := Ax.mk ((ge_new hg : w.heap.size ≤ gb359))
             have n9_ := Ax.mk ((ne_lt hg BK345.out : gb345 ≠ gb359))
             have n10_ := Ax.mk ((ne_gt hg BK345.out : gb359 ≠ gb345))
             clear HO_13
             clear HO_14
             clear HO_346001
             clear HO356
             clear BK345
             clear HB
             have HO_13 := n0_
             have HO_14 := n1_
             have HO_346001 := n2_
             have HO356 := n3_
             have BK345 := n4_
             have HB := n5_
             have BK359 := n6_
             have GW359 := n7_
             have GE359 := n8_
             have NB345_359 := n9_
             have NB359_345 := n10_
             clear n0_ n1_ n2_ n3_ n4_ n5_ n6_ n7_ n8_ n9_ n10_
             clear hb hbox hg
             refine hK.out _ _ ⟨(bC BK345.out 0).trans rfl, (bC BK345.out 1).trans rfl, (bC BK345.out 2).trans rfl, ((HB.out.cell (World.block_lt_of_cell? w _ hw352_0)).trans hw352_0)⟩ (fun hHeld => ?_)
             clear hK K
             refine norm_ (a' := ?_) ?_ ?_
             rotate_left
             ·show Act.put _ (some 16) _ = _
              simp only [Act.put, sI, sZ, sS, i64_w, i32_w]
              rfl
             exact norm_ (by simp only [putAll, Act.put, sI, sZ, sS]) (hCont (v355, gb359) _ ⟨hHeld, (by apply Kd.N_to; exact Kd.N_mono HO356.out (fun _ hk => ⟨hk.1.1, ⟨hk.1.2.1, ⟨hk.1.2.2, hk.2⟩⟩⟩)), (by exact Kd.R_to HO_13.out), (by apply Kd.N_to; exact Kd.N_mono HO_14.out (fun _ hk => ⟨hk.1.2, ⟨hk.1.1.1, ⟨hk.1.1.2, hk.2⟩⟩⟩)), (by apply Kd.N_to; exact Kd.N_mono HO_346001.out (fun _ hk => ⟨hk.1.2, ⟨hk.1.1.1, ⟨hk.1.1.2.1, ⟨hk.1.1.2.2, hk.2⟩⟩⟩⟩)), (bT BK345.out), (bT BK359.out), GW359.out, GE359.out, NB345_359.out, NB359_345.out, bA⟩)
            ·skip
             refine box_step ?hg (N := 16) ?hd (cs := #[.int .u64 0, .slice none 0 0, .string (⟨#[]⟩ : ByteArray)]) (t := 66) ?hr ?_; (case hd => rfl); (case hg => rfl); (case hr => first | (go_simp; done) | (go_simp; rfl))
             intro gb359 hg w30 hbox hb
             have n0_ := Ax.mk (Kd.R_below (by exact Kd.R_to HO_13.out) hb)
             have n1_ := Ax.mk (Kd.N_below (Kd.N_elderB (by exact Kd.N_to HO_14.out) gb359 (Nat.le_of_eq hg.symm)) hb)
             have n2_ := Ax.mk (Kd.N_below (Kd.N_elderB (by exact Kd.N_to HO_346001.out) gb359 (Nat.le_of_eq hg.symm)) hb)
             have n3_ := Ax.mk (bB (bT BK345.out) hb)
             have n4_ := Ax.mk (bP bA hb)
             have n5_ := Ax.mk (hbox)
             have n6_ := Ax.mk ((ge_new hg : w.heap.size ≤ gb359))
             have n7_ := Ax.mk ((ge_new hg : w.heap.size ≤ gb359))
             have n8_ := Ax.mk ((ne_lt hg BK345.out : gb345 ≠ gb359))
             have n9_ := Ax.mk ((ne_gt hg BK345.out : gb359 ≠ gb345))
             clear HO_13
             clear HO_14
             clear HO_346001
             clear BK345
             clear HB
             have HO_13 := n0_
             have HO_14 := n1_
             have HO_346001 := n2_
             have BK345 := n3_
             have HB := n4_
             have BK359 := n5_
             have GW359 := n6_
             have GE359 := n7_
             have NB345_359 := n8_
             have NB359_345 := n9_
             clear n0_ n1_ n2_ n3_ n4_ n5_ n6_ n7_ n8_ n9_
             clear hb hbox hg
             refine hK.out _ _ ⟨(bC BK345.out 0).trans rfl, (bC BK345.out 1).trans rfl, (bC BK345.out 2).trans rfl, ((HB.out.cell (World.block_lt_of_cell? w _ hw352_0)).trans hw352_0)⟩ (fun hHeld => ?_)
             clear hK K
             refine norm_ (a' := ?_) ?_ ?_
             rotate_left
             ·show Act.put _ (some 16) _ = _
              simp only [Act.put, sI, sZ, sS, i64_w, i32_w]
              rfl
             refine one_ (i := 5) (N := some 61) (BT 12 575) rfl rfl (one_of HT_.out (by kernel_rfl)) (by decide) (fun K hK => ?_)
             refine goes_ Tryd.func39 (by kernel_rfl) rfl #[.agg #[.int .u64 x346000_2, .slice Ao28 x346001_2.length co28, .string x346002_2], .slice A352_0 (rd_L4 l1 x15_2).length c352_0] (by rfl) rfl rfl (by (try simp only [List.map_toArray, List.map_cons, List.map_nil]); first | done | rfl | (simp only [List.length_drop, List.length_take]; rfl) | (rw [wrap_sum2 (by assumption)]; rfl)) ?_
             with_reducible refine (journal_Add.calls k2 x346000_2 (fun k_ => ((some k_ ≠ (u13 : Value).ownBlock ∧ (some k_ ≠ (u14 : Value).ownBlock ∧ k_ ≠ gb345)) ∧ k_ ≠ gb359)) _ _ x346001_2 x346002_2 _ _ (rd_L4 l1 x15_2) t353 t354 t357 t358 _ ?side1 ?side2 ?side3 A24.out (HT.below bA)).mono ?_
             (case side1 => exact Kd.N_V (HO_346001.out))
             (case side2 => repeat (first | exact (Kd.C_below HR352_0.out HB.out) | (with_reducible refine Kd.C_alloc ?_ _) | (with_reducible refine Kd.C_drewN ?_ _) | (with_reducible refine Kd.C_drew ?_)))
             (case side3 => exact HC352_0.out)
             rintro e w31 ⟨v355, rfl, ho0, hb⟩
             refine ⟨_, rfl, ?_⟩
             have n0_ := Ax.mk (Kd.R_below (by exact Kd.R_to HO_13.out) hb)
             have n1_ := Ax.mk (Kd.N_elder' (by exact Kd.N_to HO_14.out) (Kd.N_base ho0) hb)
             have n2_ := Ax.mk (Kd.N_elder' (by exact Kd.N_to HO_346001.out) (Kd.N_base ho0) hb)
             have n3_ := Ax.mk (Kd.N_lower (Kd.N_mono (ok' := fun k_ => some k_ ≠ (u13 : Value).ownBlock ∧ some k_ ≠ (u14 : Value).ownBlock ∧ k_ ≠ gb345 ∧ k_ ≠ gb359) ho0 (fun k_ hk_ => ⟨Or.elim hk_ (fun hs_ => hs_.1.1) (fun hn_ => (Kd.fresh' (Kd.R_lt (by exact Kd.R_to HO_13.out)) k_ hn_)), Or.elim hk_ (fun hs_ => hs_.1.2.1) (fun hn_ => (Kd.fresh' (Kd.N_lt (by exact Kd.N_to HO_14.out)) k_ hn_)), Or.elim hk_ (fun hs_ => hs_.1.2.2) (fun hn_ => (Kd.freshB (g := gb345) (o := .cells #[.int .u64 x346000_2, .slice Ao28 x346001_2.length co28, .string x346002_2] 66 (0, 0)) (bT BK345.out) k_ hn_)), Or.elim hk_ (fun hs_ => hs_.2) (fun hn_ => (Kd.freshB (g := gb359) (o := .cells #[.int .u64 0, .slice none 0 0, .string (⟨#[]⟩ : ByteArray)] 66 (0, 0)) (bT BK359.out) k_ hn_))⟩)) (bS bA))
             have n4_ := Ax.mk (bB (bT BK345.out) hb)
             have n5_ := Ax.mk (bB (bT BK359.out) hb)
             have n6_ := Ax.mk (bP bA hb)
             clear HO_13
             clear HO_14
             clear HO_346001
             clear BK345
             clear BK359
             clear HB
             have HO_13 := n0_
             have HO_14 := n1_
             have HO_346001 := n2_
             have HO356 := n3_
             have BK345 := n4_
             have BK359 := n5_
             have HB := n6_
             clear n0_ n1_ n2_ n3_ n4_ n5_ n6_
             (try clear hb)
             (try clear hb2)
             (try clear hk)
             (try clear hi)
             (try clear ho0)
             refine hK.out _ _ ⟨(bC BK345.out 0).trans rfl, (bC BK345.out 1).trans rfl, (bC BK345.out 2).trans rfl, ((HB.out.cell (World.block_lt_of_cell? w _ hw352_0)).trans hw352_0)⟩ (fun hHeld => ?_)
             clear hK K
             refine norm_ (a' := ?_) ?_ ?_
             rotate_left
             ·show Act.put _ (some 61) _ = _
              simp only [Act.put, sI, sZ, sS, i64_w, i32_w]
              rfl
             refine pure_ (i := 6) (N := some 55) (v := ?_) (a' := ?_) (BT 12 639) rfl rfl (any_of HT_.out (by kernel_rfl)) (fun _ _ _ h => h) (Or.inl ⟨by rfl, ?_⟩) ?_ ?_
             rotate_left; · intro w'; go_simp; with_reducible rfl
             rotate_left; · simp only [Act.put, sI, sZ, sS, i64_w, i32_w]; rfl
             refine pure_ (i := 7) (N := some 62) (v := ?_) (a' := ?_) (BT 12 767) rfl rfl (any_of HT_.out (by kernel_rfl)) (fun _ _ _ h => h) (Or.inl ⟨by rfl, ?_⟩) ?_ ?_
             rotate_left; · intro w'; go_simp; with_reducible rfl
             rotate_left; · simp only [Act.put, sI, sZ, sS, i64_w, i32_w]; rfl
             refine pure_ (i := 8) (N := some 63) (v := ?_) (a' := ?_) (TF 10 2) rfl rfl (any_of HT_.out (by kernel_rfl)) (fun _ _ _ h => h) (Or.inl ⟨by rfl, ?_⟩) ?_ ?_
             rotate_left; · intro w'; go_simp; with_reducible rfl
             rotate_left; · simp only [Act.put, sI, sZ, sS, i64_w, i32_w]; rfl
             exact norm_ (by simp only [putAll, Act.put, sI, sZ, sS]) (hCont (v355, gb359) _ ⟨hHeld, (by exact Kd.N_to HO356.out), (by exact Kd.R_to HO_13.out), (by apply Kd.N_to; exact Kd.N_mono HO_14.out (fun _ hk => ⟨hk.2, ⟨hk.1.1.1, ⟨hk.1.1.2, hk.1.2⟩⟩⟩)), (by apply Kd.N_to; exact Kd.N_mono HO_346001.out (fun _ hk => ⟨hk.2, ⟨hk.1.1.1, ⟨hk.1.1.2.1, ⟨hk.1.1.2.2, hk.1.2⟩⟩⟩⟩)), (bT BK345.out), (bT BK359.out), GW359.out, GE359.out, NB345_359.out, NB359_345.out, bA⟩)
           rintro ⟨v355, gb359⟩ w32 ⟨hS_, h0_, h1_, h2_, h3_, h4_, h5_, h6_, h7_, h8_, h9_, h10_⟩
           have n0_ : Ax (Kd.N k44 44 w32 w.heap.size (fun k_ => some k_ ≠ (u13 : Value).ownBlock ∧ some k_ ≠ (u14 : Value).ownBlock ∧ k_ ≠ gb345 ∧ k_ ≠ gb359) v355 t354) := ⟨h0_⟩
           have n1_ : Ax (Kd.R (Kd.int .i64) 3 w32 w.heap.size (fun _ => True) u13 x13_2) := ⟨h1_⟩
           have n2_ : Ax (Kd.N k66 66 w32 w.heap.size (fun k_ => some k_ ≠ (v355 : Value).ownBlock ∧ some k_ ≠ (u13 : Value).ownBlock ∧ k_ ≠ gb345 ∧ k_ ≠ gb359) u14 x14_2) := ⟨h2_⟩
           have n3_ : Ax (Kd.N k44 44 w32 w.heap.size (fun k_ => some k_ ≠ (v355 : Value).ownBlock ∧ some k_ ≠ (u13 : Value).ownBlock ∧ some k_ ≠ (u14 : Value).ownBlock ∧ k_ ≠ gb345 ∧ k_ ≠ gb359) (.slice Ao28 x346001_2.length co28) x346001_2) := ⟨h3_⟩
           have n4_ : Ax (w32.heap[gb345]? = some (.cells #[.int .u64 x346000_2, .slice Ao28 x346001_2.length co28, .string x346002_2] 66 (0, 0))) := ⟨h4_⟩
           have n5_ : Ax (w32.heap[gb359]? = some (.cells #[.int .u64 0, .slice none 0 0, .string (⟨#[]⟩ : ByteArray)] 66 (0, 0))) := ⟨h5_⟩
           have n6_ : Ax (w.heap.size ≤ gb359) := ⟨h6_⟩
           have n7_ : Ax (w.heap.size ≤ gb359) := ⟨h7_⟩
           have n8_ : Ax (gb345 ≠ gb359) := ⟨h8_⟩
           have n9_ : Ax (gb359 ≠ gb345) := ⟨h9_⟩
           have n10_ : Ax (Below w.heap.size w w32) := ⟨h10_⟩
           clear HO_13
           clear HO_14
           clear HO_346001
           clear BK345
           clear HB
           clear h0_ h1_ h2_ h3_ h4_ h5_ h6_ h7_ h8_ h9_ h10_
           have HO356 := n0_
           have HO_13 := n1_
           have HO_14 := n2_
           have HO_346001 := n3_
           have BK345 := n4_
           have BK359 := n5_
           have GW359 := n6_
           have GE359 := n7_
           have NB345_359 := n8_
           have NB359_345 := n9_
           have HB := n10_
           clear n0_ n1_ n2_ n3_ n4_ n5_ n6_ n7_ n8_ n9_ n10_
           have hHeld : w32.cell? ⟨gb345, 0, none⟩ = some (.int .u64 x346000_2) ∧ w32.cell? ⟨gb345, 1, none⟩ = some (.slice Ao28 x346001_2.length co28) ∧ w32.cell? ⟨gb345, 2, none⟩ = some (.string x346002_2) ∧ w32.cell? (ad352.add (x15_2).toNat) = some (.slice A352_0 (rd_L4 l1 x15_2).length c352_0) := hS_
           obtain ⟨Ao34, co34, eo34⟩ := Kd.N_slice HO356.out
           (first | subst eo34 | (injection eo34 with f1_ f2_ f3_; have f4_ := f1_.symm; have f5_ := f3_.symm; clear f1_ f2_ f3_; subst f4_; subst f5_))
           refine norm_ (a' := ?_) ?_ ?_
           rotate_left
           ·simp only [putAll, Act.put, sI, sZ, sS]
            rfl
           refine one_ (i := 10) (N := none) (TF 11 1) rfl rfl (one_of HT_.out (by kernel_rfl)) (by decide) (fun K hK => ?_)
           have hs33 : w32.cell? ⟨gb359, 0, none⟩ = some (.int .u64 0) := (bC BK359.out 0).trans rfl
           have hfs33 := bF BK359.out 0
           have hns33_0 := NB345_359.out
           have hms33_0 := NB359_345.out
           have hs35 : w32.cell? ⟨gb359, 1, none⟩ = some (.slice none 0 0) := (bC BK359.out 1).trans rfl
           have hfs35 := bF BK359.out 1
           have hns35_0 := NB345_359.out
           have hms35_0 := NB359_345.out
           have hs36 : w32.cell? ⟨gb359, 2, none⟩ = some (.string (⟨#[]⟩ : ByteArray)) := (bC BK359.out 2).trans rfl
           have hfs36 := bF BK359.out 2
           have hns36_0 := NB345_359.out
           have hms36_0 := NB359_345.out
           refine skip_ (w1 := ?_) (by rfl) rfl ?_ ?_
           rotate_left
           ·go_simp
            rfl
           refine hK.out _ _ ⟨((cell_far (p := ⟨gb359, _, none⟩) NB345_359.out _).trans (((cell_far (p := ⟨gb359, _, none⟩) NB345_359.out _).trans (((cell_far (p := ⟨gb359, _, none⟩) NB345_359.out _).trans (hHeld.1)))))), ((cell_far (p := ⟨gb359, _, none⟩) NB345_359.out _).trans (((cell_far (p := ⟨gb359, _, none⟩) NB345_359.out _).trans (((cell_far (p := ⟨gb359, _, none⟩) NB345_359.out _).trans (hHeld.2.1)))))), ((cell_far (p := ⟨gb359, _, none⟩) NB345_359.out _).trans (((cell_far (p := ⟨gb359, _, none⟩) NB345_359.out _).trans (((cell_far (p := ⟨gb359, _, none⟩) NB345_359.out _).trans (hHeld.2.2.1)))))), ((cell_far (p := ⟨gb359, _, none⟩) (by first | exact Nat.ne_of_lt (Nat.lt_of_lt_of_le (by have := World.block_lt_of_cell? _ _ hw352_0; first | rwa [add_block] at this | exact this) GW359.out) | (rw [add_block]; exact Nat.ne_of_lt (Nat.lt_of_lt_of_le (by have := World.block_lt_of_cell? _ _ hw352_0; first | rwa [add_block] at this | exact this) GW359.out)) | (show (Addr.add _ _).block ≠ _; rw [add_block]; exact Nat.ne_of_lt (Nat.lt_of_lt_of_le (by have := World.block_lt_of_cell? _ _ hw352_0; first | rwa [add_block] at this | exact this) GW359.out)) | (dsimp only; exact Nat.ne_of_lt (Nat.lt_of_lt_of_le (by have := World.block_lt_of_cell? _ _ hw352_0; first | rwa [add_block] at this | exact this) GW359.out))) _).trans (((cell_far (p := ⟨gb359, _, none⟩) (by first | exact Nat.ne_of_lt (Nat.lt_of_lt_of_le (by have := World.block_lt_of_cell? _ _ hw352_0; first | rwa [add_block] at this | exact this) GW359.out) | (rw [add_block]; exact Nat.ne_of_lt (Nat.lt_of_lt_of_le (by have := World.block_lt_of_cell? _ _ hw352_0; first | rwa [add_block] at this | exact this) GW359.out)) | (show (Addr.add _ _).block ≠ _; rw [add_block]; exact Nat.ne_of_lt (Nat.lt_of_lt_of_le (by have := World.block_lt_of_cell? _ _ hw352_0; first | rwa [add_block] at this | exact this) GW359.out)) | (dsimp only; exact Nat.ne_of_lt (Nat.lt_of_lt_of_le (by have := World.block_lt_of_cell? _ _ hw352_0; first | rwa [add_block] at this | exact this) GW359.out))) _).trans (((cell_far (p := ⟨gb359, _, none⟩) (by first | exact Nat.ne_of_lt (Nat.lt_of_lt_of_le (by have := World.block_lt_of_cell? _ _ hw352_0; first | rwa [add_block] at this | exact this) GW359.out) | (rw [add_block]; exact Nat.ne_of_lt (Nat.lt_of_lt_of_le (by have := World.block_lt_of_cell? _ _ hw352_0; first | rwa [add_block] at this | exact this) GW359.out)) | (show (Addr.add _ _).block ≠ _; rw [add_block]; exact Nat.ne_of_lt (Nat.lt_of_lt_of_le (by have := World.block_lt_of_cell? _ _ hw352_0; first | rwa [add_block] at this | exact this) GW359.out)) | (dsimp only; exact Nat.ne_of_lt (Nat.lt_of_lt_of_le (by have := World.block_lt_of_cell? _ _ hw352_0; first | rwa [add_block] at this | exact this) GW359.out))) _).trans (hHeld.2.2.2))))))⟩ (fun hHeld => ?_)
           clear hK K
           refine pure_ (i := 11) (N := some 17) (v := ?_) (a' := ?_) (TF 12 0) rfl rfl (any_of HT_.out (by kernel_rfl)) (fun _ _ _ h => h) (Or.inl ⟨by rfl, ?_⟩) ?_ ?_
           rotate_left; · intro w'; go_simp; with_reducible rfl
           rotate_left; · simp only [Act.put, sI, sZ, sS, i64_w, i32_w]; rfl
           refine done_ (done_of HT_.out (by kernel_rfl)) ?_
           have hnb37 := NB359_345.out
           have hnc37 := NB345_359.out
           have hcz38_0 : w32.cell? ⟨gb359, 0, none⟩ = some (.int .u64 0) := (bC BK359.out 0).trans rfl
           have hcz38_1 : w32.cell? ⟨gb359, 1, none⟩ = some (.slice none 0 0) := (bC BK359.out 1).trans rfl
           have hcz38_2 : w32.cell? ⟨gb359, 2, none⟩ = some (.string (⟨#[]⟩ : ByteArray)) := (bC BK359.out 2).trans rfl
           have hfz38_0 := bF BK359.out 0
           have hfz38_1 := bF BK359.out 1
           have hfz38_2 := bF BK359.out 2
           have hcz39_0 : w32.cell? ⟨gb345, 0, none⟩ = some (.int .u64 x346000_2) := (bC BK345.out 0).trans rfl
           have hcz39_1 : w32.cell? ⟨gb345, 1, none⟩ = some (.slice Ao28 x346001_2.length co28) := (bC BK345.out 1).trans rfl
           have hcz39_2 : w32.cell? ⟨gb345, 2, none⟩ = some (.string x346002_2) := (bC BK345.out 2).trans rfl
           have hfz39_0 := bF BK345.out 0
           have hfz39_1 := bF BK345.out 1
           have hfz39_2 := bF BK345.out 2
           try go_wp2_with (first | ((with_reducible refine gate_builtin (b := .append) (xs := #[.tmp 67, .tmp 71]) rfl ?_); (try (refine gate_guard (by rfl) ?_; dsimp only)); at_builtin; refine Kd.R_append (Kd.int .i64) (w0 := w) w.heap.size rfl (.tmp 67) (.tmp 71) 60 3 (.int .i64 0) 8 rfl Tryd.underlying60 info3 rfl (by decide) (by omega) u13 x13_2 (t357.size : Int) [.int .i64 (t357.size : Int)] (fun _ => True) (fun _ => False) rfl (by first | (go_simp; done) | (go_simp; rfl)) ?aP (fun _ hk => hk.elim) ?aF ?aO ?aB ?aS ?aL ?_; (case aP => exact rfl); (case aB => exact bA); (case aF => exact (fun _ _ => trivial)); (case aO => exact (by apply Kd.R_to; exact Kd.R_mono (Kd.R_far (p := ⟨gb345, 2, none⟩) (Kd.R_far (p := ⟨gb345, 1, none⟩) (Kd.R_far (p := ⟨gb345, 0, none⟩) (Kd.R_far (p := ⟨gb359, 2, none⟩) (Kd.R_far (p := ⟨gb359, 1, none⟩) (Kd.R_far (p := ⟨gb359, 0, none⟩) (Kd.R_types (Kd.R_types HO_13.out BK359.out (by decide)) BK345.out (by decide)) (fun _ hk => hk.1.2) (.int .u64 t353)) (fun _ hk => hk.1.2) (.slice Ao34 t354.length co34)) (fun _ hk => hk.1.2) (.string t357)) (fun _ hk => hk.2) (.int .u64 t353)) (fun _ hk => hk.2) (.slice Ao34 t354.length co34)) (fun _ hk => hk.2) (.string t357)) (fun _ hk => trivial))); (case aS => exact (bS bA)); (case aL => have := LMc26.out; omega); intro v361 w40 ho hb hg hat; rw [← Ny360.out] at ho; have n0_ := Ax.mk (Kd.N_afterv (ok := (fun k_ => some k_ ≠ (.slice Ao34 t354.length co34 : Value).ownBlock ∧ k_ ≠ gb345 ∧ k_ ≠ gb359)) (by apply Kd.N_to; exact Kd.N_mono (Kd.N_far (p := ⟨gb345, 2, none⟩) (Kd.N_far (p := ⟨gb345, 1, none⟩) (Kd.N_far (p := ⟨gb345, 0, none⟩) (Kd.N_far (p := ⟨gb359, 2, none⟩) (Kd.N_far (p := ⟨gb359, 1, none⟩) (Kd.N_far (p := ⟨gb359, 0, none⟩) (Kd.N_mono (Kd.N_mono HO_14.out (fun k_ hk => (⟨hk, hk.2.2.2⟩ : _ ∧ k_ ≠ gb359))) (fun k_ hk => (⟨hk, hk.1.2.2.1⟩ : _ ∧ k_ ≠ gb345))) (fun _ hk => hk.1.2) (.int .u64 t353)) (fun _ hk => hk.1.2) (.slice Ao34 t354.length co34)) (fun _ hk => hk.1.2) (.string t357)) (fun _ hk => hk.2) (.int .u64 t353)) (fun _ hk => hk.2) (.slice Ao34 t354.length co34)) (fun _ hk => hk.2) (.string t357)) (fun _ hk => ⟨⟨hk.1.1.1, ⟨hk.1.1.2.2.1, hk.1.1.2.2.2⟩⟩, hk.1.1.2.1⟩)) hg hat); have n1_ := Ax.mk (Kd.N_afterv (ok := (fun k_ => some k_ ≠ (u14 : Value).ownBlock ∧ some k_ ≠ (.slice Ao34 t354.length co34 : Value).ownBlock ∧ k_ ≠ gb345 ∧ k_ ≠ gb359)) (by apply Kd.N_to; exact Kd.N_mono (Kd.N_far (p := ⟨gb345, 2, none⟩) (Kd.N_far (p := ⟨gb345, 1, none⟩) (Kd.N_far (p := ⟨gb345, 0, none⟩) (Kd.N_far (p := ⟨gb359, 2, none⟩) (Kd.N_far (p := ⟨gb359, 1, none⟩) (Kd.N_far (p := ⟨gb359, 0, none⟩) (Kd.N_mono (Kd.N_mono HO_346001.out (fun k_ hk => (⟨hk, hk.2.2.2.2⟩ : _ ∧ k_ ≠ gb359))) (fun k_ hk => (⟨hk, hk.1.2.2.2.1⟩ : _ ∧ k_ ≠ gb345))) (fun _ hk => hk.1.2) (.int .u64 t353)) (fun _ hk => hk.1.2) (.slice Ao34 t354.length co34)) (fun _ hk => hk.1.2) (.string t357)) (fun _ hk => hk.2) (.int .u64 t353)) (fun _ hk => hk.2) (.slice Ao34 t354.length co34)) (fun _ hk => hk.2) (.string t357)) (fun _ hk => ⟨⟨hk.1.1.2.2.1, ⟨hk.1.1.1, ⟨hk.1.1.2.2.2.1, hk.1.1.2.2.2.2⟩⟩⟩, hk.1.1.2.1⟩)) hg hat); have n2_ := Ax.mk (blk_grown (g := gb345) (o := .cells #[.int .u64 t353, .slice Ao34 t354.length co34, .string t357] 66 (0, 0)) (by refine bT ?_; refine bU (cs := #[.int .u64 t353, .slice Ao34 t354.length co34, .string x346002_2]) ?_ 2 _ rfl; refine bT ?_; refine bU (cs := #[.int .u64 t353, .slice Ao28 x346001_2.length co28, .string x346002_2]) ?_ 1 _ rfl; refine bT ?_; refine bU (cs := #[.int .u64 x346000_2, .slice Ao28 x346001_2.length co28, .string x346002_2]) ?_ 0 _ rfl; refine bT ?_; refine bR ?_ NB345_359.out _; refine bT ?_; refine bR ?_ NB345_359.out _; refine bT ?_; refine bR ?_ NB345_359.out _; exact bT BK345.out) hg (Kd.R_ne HO_13.out BK345.out (by decide))); have n3_ := Ax.mk (Kd.N_afterv (ok := (fun k_ => some k_ ≠ (u14 : Value).ownBlock ∧ k_ ≠ gb345 ∧ k_ ≠ gb359)) (by apply Kd.N_to; exact Kd.N_mono (Kd.N_far (p := ⟨gb345, 2, none⟩) (Kd.N_far (p := ⟨gb345, 1, none⟩) (Kd.N_far (p := ⟨gb345, 0, none⟩) (Kd.N_far (p := ⟨gb359, 2, none⟩) (Kd.N_far (p := ⟨gb359, 1, none⟩) (Kd.N_far (p := ⟨gb359, 0, none⟩) (Kd.N_mono (Kd.N_mono HO356.out (fun k_ hk => (⟨hk, hk.2.2.2⟩ : _ ∧ k_ ≠ gb359))) (fun k_ hk => (⟨hk, hk.1.2.2.1⟩ : _ ∧ k_ ≠ gb345))) (fun _ hk => hk.1.2) (.int .u64 t353)) (fun _ hk => hk.1.2) (.slice Ao34 t354.length co34)) (fun _ hk => hk.1.2) (.string t357)) (fun _ hk => hk.2) (.int .u64 t353)) (fun _ hk => hk.2) (.slice Ao34 t354.length co34)) (fun _ hk => hk.2) (.string t357)) (fun _ hk => ⟨⟨hk.1.1.2.1, ⟨hk.1.1.2.2.1, hk.1.1.2.2.2⟩⟩, hk.1.1.1⟩)) hg hat); have n4_ := Ax.mk (blk_grown (g := gb359) (o := .cells #[.int .u64 t353, .slice Ao34 t354.length co34, .string t357] 66 (0, 0)) (by refine bT ?_; refine bR ?_ NB359_345.out _; refine bT ?_; refine bR ?_ NB359_345.out _; refine bT ?_; refine bR ?_ NB359_345.out _; refine bT ?_; refine bU (cs := #[.int .u64 t353, .slice Ao34 t354.length co34, .string (⟨#[]⟩ : ByteArray)]) ?_ 2 _ rfl; refine bT ?_; refine bU (cs := #[.int .u64 t353, .slice none 0 0, .string (⟨#[]⟩ : ByteArray)]) ?_ 1 _ rfl; refine bT ?_; refine bU (cs := #[.int .u64 0, .slice none 0 0, .string (⟨#[]⟩ : ByteArray)]) ?_ 0 _ rfl; exact bT BK359.out) hg (Kd.R_ne HO_13.out BK359.out (by decide))); have n5_ := Ax.mk (hb); have n6_ := Ax.mk (ho); clear HO_14; clear HO_346001; clear BK345; clear HO356; clear BK359; clear HB; clear HO_13; have HO_14 := n0_; have HO_346001 := n1_; have BK345 := n2_; have HO356 := n3_; have BK359 := n4_; have HB := n5_; have HO362 := n6_; clear n0_ n1_ n2_ n3_ n4_ n5_ n6_; clear ho hb hg hat; have hcz41_0 : w40.cell? ⟨gb345, 0, none⟩ = some (.int .u64 t353) := (bC BK345.out 0).trans rfl; have hcz41_1 : w40.cell? ⟨gb345, 1, none⟩ = some (.slice Ao34 t354.length co34) := (bC BK345.out 1).trans rfl; have hcz41_2 : w40.cell? ⟨gb345, 2, none⟩ = some (.string t357) := (bC BK345.out 2).trans rfl; have hfz41_0 := bF BK345.out 0; have hfz41_1 := bF BK345.out 1; have hfz41_2 := bF BK345.out 2) | ((with_reducible refine gate_builtin (b := .append) (xs := #[.tmp 73, .tmp 75]) rfl ?_); (try (refine gate_guard (by rfl) ?_; dsimp only)); at_builtin; refine Kd.N_append k66 (w0 := w) w.heap.size rfl (.tmp 73) (.tmp 75) 88 66 (.agg #[(.int .u64 0), (.slice none 0 0), (.string ⟨#[]⟩)]) 48 rfl Tryd.underlying88 info66 rfl (by decide) (by omega) u14 x14_2 (⟨t353, t354, t357⟩ : S66) [.int .u64 t353, .slice Ao34 t354.length co34, .string t357] (fun k_ => some k_ ≠ (v361 : Value).ownBlock ∧ k_ ≠ gb345 ∧ k_ ≠ gb359) (fun k_ => ((fun k_ => some k_ ≠ (v361 : Value).ownBlock ∧ k_ ≠ gb345 ∧ k_ ≠ gb359)) k_ ∧ some k_ ≠ (u14 : Value).ownBlock) rfl rfl ?aP (fun _ hk => hk) ?aF ?aO ?aB ?aS ?aL ?_; (case aP => exact (k66_mkF _ _ (⟨t353, t354, t357⟩ : S66) (Kd.N_reads' (Kd.N_mono (ok' := (fun k_ => ((fun k_ => some k_ ≠ (v361 : Value).ownBlock ∧ k_ ≠ gb345 ∧ k_ ≠ gb359)) k_ ∧ some k_ ≠ (u14 : Value).ownBlock)) (HO356.out) (fun k_ hk => ⟨⟨hk.2, ⟨hk.1.2.1, hk.1.2.2⟩⟩, hk.1.1⟩))).2.1 (Kd.N_F (Kd.N_mono (ok' := (fun k_ => ((fun k_ => some k_ ≠ (v361 : Value).ownBlock ∧ k_ ≠ gb345 ∧ k_ ≠ gb359)) k_ ∧ some k_ ≠ (u14 : Value).ownBlock)) (HO356.out) (fun k_ hk => ⟨⟨hk.2, ⟨hk.1.2.1, hk.1.2.2⟩⟩, hk.1.1⟩))))); (case aB => exact bA); (case aF => exact (fun k_ hk => ⟨Kd.fresh' (Kd.R_lt (by exact Kd.R_to HO362.out)) k_ hk, Kd.freshB (g := gb345) (o := .cells #[.int .u64 t353, .slice Ao34 t354.length co34, .string t357] 66 (0, 0)) (bT BK345.out) k_ hk, Kd.freshB (g := gb359) (o := .cells #[.int .u64 t353, .slice Ao34 t354.length co34, .string t357] 66 (0, 0)) (bT BK359.out) k_ hk⟩)); (case aO => exact (by apply Kd.N_to; exact Kd.N_mono HO_14.out (fun _ hk => ⟨hk.2, ⟨hk.1.2.1, hk.1.2.2⟩⟩))); (case aS => exact (bS bA)); (case aL => have := LMc27.out; omega); intro v364 w42 ho hb hg hat; rw [← Ny363.out] at ho; have n0_ := Ax.mk (Kd.N_afterv (ok := (fun k_ => some k_ ≠ (.slice Ao34 t354.length co34 : Value).ownBlock ∧ some k_ ≠ (v361 : Value).ownBlock ∧ k_ ≠ gb345 ∧ k_ ≠ gb359)) (by apply Kd.N_to; exact Kd.N_mono HO_346001.out (fun _ hk => ⟨⟨hk.1.2.1, ⟨hk.2, ⟨hk.1.2.2.1, hk.1.2.2.2⟩⟩⟩, hk.1.1⟩)) hg hat); have n1_ := Ax.mk (blk_grown (g := gb345) (o := .cells #[.int .u64 t353, .slice Ao34 t354.length co34, .string t357] 66 (0, 0)) (bT BK345.out) hg (Kd.N_away HO_14.out (fun _ hk => hk.1.2.1))); have n2_ := Ax.mk (Kd.N_afterv (ok := (fun k_ => some k_ ≠ (v361 : Value).ownBlock ∧ k_ ≠ gb345 ∧ k_ ≠ gb359)) (by apply Kd.N_to; exact Kd.N_mono HO356.out (fun _ hk => ⟨⟨hk.2, ⟨hk.1.2.1, hk.1.2.2⟩⟩, hk.1.1⟩)) hg hat); have n3_ := Ax.mk (blk_grown (g := gb359) (o := .cells #[.int .u64 t353, .slice Ao34 t354.length co34, .string t357] 66 (0, 0)) (bT BK359.out) hg (Kd.N_away HO_14.out (fun _ hk => hk.1.2.2))); have n4_ := Ax.mk (Kd.R_over' (by exact Kd.R_to HO362.out) (Kd.N_typed (by exact Kd.N_to HO_14.out)) (by decide) hg); have n5_ := Ax.mk (hb); have n6_ := Ax.mk (ho); clear HO_346001; clear BK345; clear HO356; clear BK359; clear HO362; clear HB; clear HO_14; have HO_346001 := n0_; have BK345 := n1_; have HO356 := n2_; have BK359 := n3_; have HO362 := n4_; have HB := n5_; have HO365 := n6_; clear n0_ n1_ n2_ n3_ n4_ n5_ n6_; clear ho hb hg hat))
           go_roundg k2
           case measure => have := HJ6.out; have := HK2.out; omega
           case rel => exact ⟨(y360), (y363), (wrap64 (x15_2 + 1)), (t353), (t354), (t357), (.slice Ao34 t354.length co34), (by first | rfl | (simp; done) | (simp [*]; done)), H', ⟨by have := HJ6.out; have := HK2.out; omega⟩, ⟨by apply Kd.R_to; exact HO362.out⟩, ⟨by apply Kd.N_to; exact Kd.N_mono HO365.out (fun _ hk => ⟨hk.1, hk.2.1⟩)⟩, ⟨by apply Kd.N_to; exact Kd.N_mono HO356.out (fun _ hk => ⟨hk.1.1, ⟨hk.2, hk.1.2.1⟩⟩)⟩, ⟨by refine bT ?_; exact BK345.out⟩, ⟨bA⟩⟩
          ·rw [if_neg c27] at H
           exact absurd H (by simp)
         ·rw [if_neg c26] at H
          exact absurd H (by simp)
        ·rw [if_neg c25] at H
         have c25b0 : (t358 == 0) = false := beq_eq_false_iff_ne.mpr c25
         have c25b1 : (t358 != 0) = true := bne_iff_ne.mpr c25
         have H' := Ax.mk H
         clear H
         obtain ⟨Ao43, co43, eo43⟩ := Kd.N_slice HO_346001.out
         subst eo43
         try go_wp2
         have n0_ := Ax.mk (Kd.R_drew HO_13.out)
         have n1_ := Ax.mk (Kd.N_drew HO_14.out)
         have n2_ := Ax.mk (Kd.N_drew HO_346001.out)
         have n3_ := Ax.mk (blk_drew BK345.out)
         have n4_ := Ax.mk (below_drew1 HB.out)
         clear HO_13
         clear HO_14
         clear HO_346001
         clear BK345
         clear HB
         have HO_13 := n0_
         have HO_14 := n1_
         have HO_346001 := n2_
         have BK345 := n3_
         have HB := n4_
         clear n0_ n1_ n2_ n3_ n4_
         have p352 : 0 ≤ (x15_2 : Int) := ofD
         have q352 : x15_2 < (l1.length : Int) := ofD
         obtain ⟨ad352, A352_0, c352_0, e352, hx352_0, hl352_0, hi352_0⟩ := at_L4 HR1.out x15_2 p352 q352
         have hw352_0 := hx352_0
         cases e352
         replace hx352_0 := (HB.out.cell (World.block_lt_of_cell? w _ hx352_0)).trans hx352_0
         have HR352_0 := Ax.mk hi352_0
         have HC352_0 := Ax.mk hl352_0
         clear hi352_0 hl352_0
         replace p352 := eq_true p352
         replace q352 := eq_true q352
         refine start_ (n := 12) (S := fun w' => w'.cell? ⟨gb345, 0, none⟩ = some (.int .u64 x346000_2) ∧ w'.cell? ⟨gb345, 1, none⟩ = some (.slice Ao43 x346001_2.length co43) ∧ w'.cell? ⟨gb345, 2, none⟩ = some (.string x346002_2) ∧ w'.cell? (ad352.add (x15_2).toNat) = some (.slice A352_0 (rd_L4 l1 x15_2).length c352_0)) (ds := []) (TF 0 12) (by kernel_rfl) rfl rfl ⟨(bC BK345.out 0).trans rfl, (bC BK345.out 1).trans rfl, (bC BK345.out 2).trans rfl, ((HB.out.cell (World.block_lt_of_cell? w _ hw352_0)).trans hw352_0)⟩ (fun hHeld => ?_); refine with_tabW l13_JournalTorn.tab11 l13_JournalTorn.bits11 (fun HT_ HW_ => ?_)
         generalize wr.drew = w44 at HO_13 HO_14 HO_346001 BK345 HB HR352_0 hx352_0 hHeld ⊢
         refine pure_ (i := 1) (N := some 57) (v := ?_) (a' := ?_) (BT 12 2) rfl rfl (any_of HT_.out (by kernel_rfl)) (fun _ _ _ h => h) (Or.inl ⟨by rfl, ?_⟩) ?_ ?_
         rotate_left; · intro w'; go_simp; with_reducible rfl
         rotate_left; · simp only [Act.put, sI, sZ, sS, i64_w, i32_w]; rfl
         refine pure_ (i := 2) (N := some 58) (v := ?_) (a' := ?_) (BT 12 6) rfl rfl (any_of HT_.out (by kernel_rfl)) (fun _ _ _ h => h) (Or.inl ⟨by rfl, ?_⟩) ?_ ?_
         rotate_left; · intro w'; go_simp; with_reducible rfl
         rotate_left; · simp only [Act.put, sI, sZ, sS, i64_w, i32_w]; rfl
         refine pure_ (i := 3) (N := some 59) (v := ?_) (a' := ?_) (BT 12 14) rfl rfl (any_of HT_.out (by kernel_rfl)) (fun _ _ _ h => h) (Or.inl ⟨by rfl, ?_⟩) ?_ ?_
         rotate_left; · intro w'; go_simp; with_reducible rfl
         rotate_left; · simp only [Act.put, sI, sZ, sS, i64_w, i32_w]; rfl
         refine take_ (i := 0) (N := some 56) (v := ?_) (a' := ?_) (TF 4 8) rfl rfl (take_ofW HT_.out HW_.out (by kernel_rfl)) (fun _ _ _ h => h) (Or.inl ⟨by rfl, ?_⟩) hHeld ?_ ?_
         rotate_left
         ·rintro w' ⟨s0, s1, s2, s3⟩
          go_simp
          with_reducible rfl
         rotate_left
         ·simp only [Act.put, sI, sZ, sS, i64_w, i32_w]
          rfl
         refine take_ (i := 4) (N := some 60) (v := ?_) (a' := ?_) (TF 5 7) rfl rfl (take_ofW HT_.out HW_.out (by kernel_rfl)) (fun _ _ _ h => h) (Or.inl ⟨by rfl, ?_⟩) hHeld ?_ ?_
         rotate_left
         ·rintro w' ⟨s0, s1, s2, s3⟩
          go_simp
          with_reducible rfl
         rotate_left
         ·simp only [Act.put, sI, sZ, sS, i64_w, i32_w]
          rfl
         refine join_ (σ := Value × Nat) 2 (TF 10 2) (fun s_ => [(61, .tuple #[.agg #[.int .u64 t353, s_.1, .string t357], .int .i64 t358]), (16, .pointer (some ⟨s_.2, 0, none⟩)), (55, .tuple #[.agg #[.int .u64 t353, s_.1, .string t357], .int .i64 t358]), (62, .agg #[.int .u64 t353, s_.1, .string t357]), (63, .int .i64 t358)]) (fun s_ w' => (w'.cell? ⟨gb345, 0, none⟩ = some (.int .u64 x346000_2) ∧ w'.cell? ⟨gb345, 1, none⟩ = some (.slice Ao43 x346001_2.length co43) ∧ w'.cell? ⟨gb345, 2, none⟩ = some (.string x346002_2) ∧ w'.cell? (ad352.add (x15_2).toNat) = some (.slice A352_0 (rd_L4 l1 x15_2).length c352_0)) ∧ (Kd.N k44 44 w' w.heap.size (fun k_ => some k_ ≠ (u13 : Value).ownBlock ∧ some k_ ≠ (u14 : Value).ownBlock ∧ k_ ≠ gb345 ∧ k_ ≠ s_.2) s_.1 t354) ∧ (Kd.R (Kd.int .i64) 3 w' w.heap.size (fun _ => True) u13 x13_2) ∧ (Kd.N k66 66 w' w.heap.size (fun k_ => some k_ ≠ (s_.1 : Value).ownBlock ∧ some k_ ≠ (u13 : Value).ownBlock ∧ k_ ≠ gb345 ∧ k_ ≠ s_.2) u14 x14_2) ∧ (Kd.N k44 44 w' w.heap.size (fun k_ => some k_ ≠ (s_.1 : Value).ownBlock ∧ some k_ ≠ (u13 : Value).ownBlock ∧ some k_ ≠ (u14 : Value).ownBlock ∧ k_ ≠ gb345 ∧ k_ ≠ s_.2) (.slice Ao43 x346001_2.length co43) x346001_2) ∧ (w'.heap[gb345]? = some (.cells #[.int .u64 x346000_2, .slice Ao43 x346001_2.length co43, .string x346002_2] 66 (0, 0))) ∧ (w'.heap[s_.2]? = some (.cells #[.int .u64 0, .slice none 0 0, .string (⟨#[]⟩ : ByteArray)] 66 (0, 0))) ∧ (w.heap.size ≤ s_.2) ∧ (w.heap.size ≤ s_.2) ∧ (gb345 ≠ s_.2) ∧ (s_.2 ≠ gb345) ∧ (Below w.heap.size w w')) ?_ ?_
         rotate_left
         ·intro hCont
          refine two_ (i := 5) (j := 9) (Ni := some 61) (Nj := some 16) (TF 6 6) (BT 12 543) rfl rfl rfl rfl (two_of HT_.out (by kernel_rfl)) (by decide) (by decide) (fun K hK => ?_) (fun K hK => ?_)
          ·skip
           refine goes_ Tryd.func39 (by kernel_rfl) rfl #[.agg #[.int .u64 x346000_2, .slice Ao43 x346001_2.length co43, .string x346002_2], .slice A352_0 (rd_L4 l1 x15_2).length c352_0] (by rfl) rfl rfl (by (try simp only [List.map_toArray, List.map_cons, List.map_nil]); first | done | rfl | (simp only [List.length_drop, List.length_take]; rfl) | (rw [wrap_sum2 (by assumption)]; rfl)) ?_
           with_reducible refine (journal_Add.calls k2 x346000_2 (fun k_ => (some k_ ≠ (u13 : Value).ownBlock ∧ (some k_ ≠ (u14 : Value).ownBlock ∧ k_ ≠ gb345))) _ _ x346001_2 x346002_2 _ _ (rd_L4 l1 x15_2) t353 t354 t357 t358 _ ?side1 ?side2 ?side3 A24.out (HT.below bA)).mono ?_
           (case side1 => exact Kd.N_V (HO_346001.out))
           (case side2 => repeat (first | exact (Kd.C_below HR352_0.out HB.out) | (with_reducible refine Kd.C_alloc ?_ _) | (with_reducible refine Kd.C_drewN ?_ _) | (with_reducible refine Kd.C_drew ?_)))
           (case side3 => exact HC352_0.out)
           rintro e w45 ⟨v355, rfl, ho0, hb⟩
           refine ⟨_, rfl, ?_⟩
           have n0_ := Ax.mk (Kd.R_below (by exact Kd.R_to HO_13.out) hb)
           have n1_ := Ax.mk (Kd.N_elder' (by exact Kd.N_to HO_14.out) (Kd.N_base ho0) hb)
           have n2_ := Ax.mk (Kd.N_elder' (by exact Kd.N_to HO_346001.out) (Kd.N_base ho0) hb)
           have n3_ := Ax.mk (Kd.N_lower (Kd.N_mono (ok' := fun k_ => some k_ ≠ (u13 : Value).ownBlock ∧ some k_ ≠ (u14 : Value).ownBlock ∧ k_ ≠ gb345) ho0 (fun k_ hk_ => ⟨Or.elim hk_ (fun hs_ => hs_.1) (fun hn_ => (Kd.fresh' (Kd.R_lt (by exact Kd.R_to HO_13.out)) k_ hn_)), Or.elim hk_ (fun hs_ => hs_.2.1) (fun hn_ => (Kd.fresh' (Kd.N_lt (by exact Kd.N_to HO_14.out)) k_ hn_)), Or.elim hk_ (fun hs_ => hs_.2.2) (fun hn_ => (Kd.freshB (g := gb345) (o := .cells #[.int .u64 x346000_2, .slice Ao43 x346001_2.length co43, .string x346002_2] 66 (0, 0)) (bT BK345.out) k_ hn_))⟩)) (bS bA))
           have n4_ := Ax.mk (bB (bT BK345.out) hb)
           have n5_ := Ax.mk (bP bA hb)
           clear HO_13
           clear HO_14
           clear HO_346001
           clear BK345
           clear HB
           have HO_13 := n0_
           have HO_14 := n1_
           have HO_346001 := n2_
           have HO356 := n3_
           have BK345 := n4_
           have HB := n5_
           clear n0_ n1_ n2_ n3_ n4_ n5_
           (try clear hb)
           (try clear hb2)
           (try clear hk)
           (try clear hi)
           (try clear ho0)
           refine hK.out _ _ ⟨(bC BK345.out 0).trans rfl, (bC BK345.out 1).trans rfl, (bC BK345.out 2).trans rfl, ((HB.out.cell (World.block_lt_of_cell? w _ hw352_0)).trans hw352_0)⟩ (fun hHeld => ?_)
           clear hK K
           refine norm_ (a' := ?_) ?_ ?_
           rotate_left
           ·show Act.put _ (some 61) _ = _
            simp only [Act.put, sI, sZ, sS, i64_w, i32_w]
            rfl
           refine pure_ (i := 6) (N := some 55) (v := ?_) (a' := ?_) (TF 7 5) rfl rfl (any_of HT_.out (by kernel_rfl)) (fun _ _ _ h => h) (Or.inl ⟨by rfl, ?_⟩) ?_ ?_
           rotate_left; · intro w'; go_simp; with_reducible rfl
           rotate_left; · simp only [Act.put, sI, sZ, sS, i64_w, i32_w]; rfl
           refine pure_ (i := 7) (N := some 62) (v := ?_) (a' := ?_) (TF 8 4) rfl rfl (any_of HT_.out (by kernel_rfl)) (fun _ _ _ h => h) (Or.inl ⟨by rfl, ?_⟩) ?_ ?_
           rotate_left; · intro w'; go_simp; with_reducible rfl
           rotate_left; · simp only [Act.put, sI, sZ, sS, i64_w, i32_w]; rfl
           refine pure_ (i := 8) (N := some 63) (v := ?_) (a' := ?_) (TF 9 3) rfl rfl (any_of HT_.out (by kernel_rfl)) (fun _ _ _ h => h) (Or.inl ⟨by rfl, ?_⟩) ?_ ?_
           rotate_left; · intro w'; go_simp; with_reducible rfl
           rotate_left; · simp only [Act.put, sI, sZ, sS, i64_w, i32_w]; rfl
           refine one_ (i := 9) (N := some 16) (TF 10 2) rfl rfl (one_of HT_.out (by kernel_rfl)) (by decide) (fun K hK => ?_)
           refine box_step ?hg (N := 16) ?hd (cs := #[.int .u64 0, .slice none 0 0, .string (⟨#[]⟩ : ByteArray)]) (t := 66) ?hr ?_; (case hd => rfl); (case hg => rfl); (case hr => first | (go_simp; done) | (go_simp; rfl))
           intro gb359 hg w46 hbox hb
           have n0_ := Ax.mk (Kd.R_below (by exact Kd.R_to HO_13.out) hb)
           have n1_ := Ax.mk (Kd.N_below (Kd.N_elderB (by exact Kd.N_to HO_14.out) gb359 (Nat.le_of_eq hg.symm)) hb)
           have n2_ := Ax.mk (Kd.N_below (Kd.N_elderB (by exact Kd.N_to HO_346001.out) gb359 (Nat.le_of_eq hg.symm)) hb)
           have n3_ := Ax.mk (Kd.N_below (Kd.N_elderB (by exact Kd.N_to HO356.out) gb359 (Nat.le_of_eq hg.symm)) hb)
           have n4_ := Ax.mk (bB (bT BK345.out) hb)
           have n5_ := Ax.mk (bP bA hb)
           have n6_ := Ax.mk (hbox)
           have n7_ := Ax.mk ((ge_new hg : w.heap.size ≤ gb359))
           have n8_ := Ax.mk ((ge_new hg : w.heap.size ≤ gb359))
           have n9_ := Ax.mk ((ne_lt hg BK345.out : gb345 ≠ gb359))
           have n10_ := Ax.mk ((ne_gt hg BK345.out : gb359 ≠ gb345))
           clear HO_13
           clear HO_14
           clear HO_346001
           clear HO356
           clear BK345
           clear HB
           have HO_13 := n0_
           have HO_14 := n1_
           have HO_346001 := n2_
           have HO356 := n3_
           have BK345 := n4_
           have HB := n5_
           have BK359 := n6_
           have GW359 := n7_
           have GE359 := n8_
           have NB345_359 := n9_
           have NB359_345 := n10_
           clear n0_ n1_ n2_ n3_ n4_ n5_ n6_ n7_ n8_ n9_ n10_
           clear hb hbox hg
           refine hK.out _ _ ⟨(bC BK345.out 0).trans rfl, (bC BK345.out 1).trans rfl, (bC BK345.out 2).trans rfl, ((HB.out.cell (World.block_lt_of_cell? w _ hw352_0)).trans hw352_0)⟩ (fun hHeld => ?_)
           clear hK K
           refine norm_ (a' := ?_) ?_ ?_
           rotate_left
           ·show Act.put _ (some 16) _ = _
            simp only [Act.put, sI, sZ, sS, i64_w, i32_w]
            rfl
           exact norm_ (by simp only [putAll, Act.put, sI, sZ, sS]) (hCont (v355, gb359) _ ⟨hHeld, (by apply Kd.N_to; exact Kd.N_mono HO356.out (fun _ hk => ⟨hk.1.1, ⟨hk.1.2.1, ⟨hk.1.2.2, hk.2⟩⟩⟩)), (by exact Kd.R_to HO_13.out), (by apply Kd.N_to; exact Kd.N_mono HO_14.out (fun _ hk => ⟨hk.1.2, ⟨hk.1.1.1, ⟨hk.1.1.2, hk.2⟩⟩⟩)), (by apply Kd.N_to; exact Kd.N_mono HO_346001.out (fun _ hk => ⟨hk.1.2, ⟨hk.1.1.1, ⟨hk.1.1.2.1, ⟨hk.1.1.2.2, hk.2⟩⟩⟩⟩)), (bT BK345.out), (bT BK359.out), GW359.out, GE359.out, NB345_359.out, NB359_345.out, bA⟩)
          ·skip
           refine box_step ?hg (N := 16) ?hd (cs := #[.int .u64 0, .slice none 0 0, .string (⟨#[]⟩ : ByteArray)]) (t := 66) ?hr ?_; (case hd => rfl); (case hg => rfl); (case hr => first | (go_simp; done) | (go_simp; rfl))
           intro gb359 hg w45 hbox hb
           have n0_ := Ax.mk (Kd.R_below (by exact Kd.R_to HO_13.out) hb)
           have n1_ := Ax.mk (Kd.N_below (Kd.N_elderB (by exact Kd.N_to HO_14.out) gb359 (Nat.le_of_eq hg.symm)) hb)
           have n2_ := Ax.mk (Kd.N_below (Kd.N_elderB (by exact Kd.N_to HO_346001.out) gb359 (Nat.le_of_eq hg.symm)) hb)
           have n3_ := Ax.mk (bB (bT BK345.out) hb)
           have n4_ := Ax.mk (bP bA hb)
           have n5_ := Ax.mk (hbox)
           have n6_ := Ax.mk ((ge_new hg : w.heap.size ≤ gb359))
           have n7_ := Ax.mk ((ge_new hg : w.heap.size ≤ gb359))
           have n8_ := Ax.mk ((ne_lt hg BK345.out : gb345 ≠ gb359))
           have n9_ := Ax.mk ((ne_gt hg BK345.out : gb359 ≠ gb345))
           clear HO_13
           clear HO_14
           clear HO_346001
           clear BK345
           clear HB
           have HO_13 := n0_
           have HO_14 := n1_
           have HO_346001 := n2_
           have BK345 := n3_
           have HB := n4_
           have BK359 := n5_
           have GW359 := n6_
           have GE359 := n7_
           have NB345_359 := n8_
           have NB359_345 := n9_
           clear n0_ n1_ n2_ n3_ n4_ n5_ n6_ n7_ n8_ n9_
           clear hb hbox hg
           refine hK.out _ _ ⟨(bC BK345.out 0).trans rfl, (bC BK345.out 1).trans rfl, (bC BK345.out 2).trans rfl, ((HB.out.cell (World.block_lt_of_cell? w _ hw352_0)).trans hw352_0)⟩ (fun hHeld => ?_)
           clear hK K
           refine norm_ (a' := ?_) ?_ ?_
           rotate_left
           ·show Act.put _ (some 16) _ = _
            simp only [Act.put, sI, sZ, sS, i64_w, i32_w]
            rfl
           refine one_ (i := 5) (N := some 61) (BT 12 575) rfl rfl (one_of HT_.out (by kernel_rfl)) (by decide) (fun K hK => ?_)
           refine goes_ Tryd.func39 (by kernel_rfl) rfl #[.agg #[.int .u64 x346000_2, .slice Ao43 x346001_2.length co43, .string x346002_2], .slice A352_0 (rd_L4 l1 x15_2).length c352_0] (by rfl) rfl rfl (by (try simp only [List.map_toArray, List.map_cons, List.map_nil]); first | done | rfl | (simp only [List.length_drop, List.length_take]; rfl) | (rw [wrap_sum2 (by assumption)]; rfl)) ?_
           with_reducible refine (journal_Add.calls k2 x346000_2 (fun k_ => ((some k_ ≠ (u13 : Value).ownBlock ∧ (some k_ ≠ (u14 : Value).ownBlock ∧ k_ ≠ gb345)) ∧ k_ ≠ gb359)) _ _ x346001_2 x346002_2 _ _ (rd_L4 l1 x15_2) t353 t354 t357 t358 _ ?side1 ?side2 ?side3 A24.out (HT.below bA)).mono ?_
           (case side1 => exact Kd.N_V (HO_346001.out))
           (case side2 => repeat (first | exact (Kd.C_below HR352_0.out HB.out) | (with_reducible refine Kd.C_alloc ?_ _) | (with_reducible refine Kd.C_drewN ?_ _) | (with_reducible refine Kd.C_drew ?_)))
           (case side3 => exact HC352_0.out)
           rintro e w46 ⟨v355, rfl, ho0, hb⟩
           refine ⟨_, rfl, ?_⟩
           have n0_ := Ax.mk (Kd.R_below (by exact Kd.R_to HO_13.out) hb)
           have n1_ := Ax.mk (Kd.N_elder' (by exact Kd.N_to HO_14.out) (Kd.N_base ho0) hb)
           have n2_ := Ax.mk (Kd.N_elder' (by exact Kd.N_to HO_346001.out) (Kd.N_base ho0) hb)
           have n3_ := Ax.mk (Kd.N_lower (Kd.N_mono (ok' := fun k_ => some k_ ≠ (u13 : Value).ownBlock ∧ some k_ ≠ (u14 : Value).ownBlock ∧ k_ ≠ gb345 ∧ k_ ≠ gb359) ho0 (fun k_ hk_ => ⟨Or.elim hk_ (fun hs_ => hs_.1.1) (fun hn_ => (Kd.fresh' (Kd.R_lt (by exact Kd.R_to HO_13.out)) k_ hn_)), Or.elim hk_ (fun hs_ => hs_.1.2.1) (fun hn_ => (Kd.fresh' (Kd.N_lt (by exact Kd.N_to HO_14.out)) k_ hn_)), Or.elim hk_ (fun hs_ => hs_.1.2.2) (fun hn_ => (Kd.freshB (g := gb345) (o := .cells #[.int .u64 x346000_2, .slice Ao43 x346001_2.length co43, .string x346002_2] 66 (0, 0)) (bT BK345.out) k_ hn_)), Or.elim hk_ (fun hs_ => hs_.2) (fun hn_ => (Kd.freshB (g := gb359) (o := .cells #[.int .u64 0, .slice none 0 0, .string (⟨#[]⟩ : ByteArray)] 66 (0, 0)) (bT BK359.out) k_ hn_))⟩)) (bS bA))
           have n4_ := Ax.mk (bB (bT BK345.out) hb)
           have n5_ := Ax.mk (bB (bT BK359.out) hb)
           have n6_ := Ax.mk (bP bA hb)
           clear HO_13
           clear HO_14
           clear HO_346001
           clear BK345
           clear BK359
           clear HB
           have HO_13 := n0_
           have HO_14 := n1_
           have HO_346001 := n2_
           have HO356 := n3_
           have BK345 := n4_
           have BK359 := n5_
           have HB := n6_
           clear n0_ n1_ n2_ n3_ n4_ n5_ n6_
           (try clear hb)
           (try clear hb2)
           (try clear hk)
           (try clear hi)
           (try clear ho0)
           refine hK.out _ _ ⟨(bC BK345.out 0).trans rfl, (bC BK345.out 1).trans rfl, (bC BK345.out 2).trans rfl, ((HB.out.cell (World.block_lt_of_cell? w _ hw352_0)).trans hw352_0)⟩ (fun hHeld => ?_)
           clear hK K
           refine norm_ (a' := ?_) ?_ ?_
           rotate_left
           ·show Act.put _ (some 61) _ = _
            simp only [Act.put, sI, sZ, sS, i64_w, i32_w]
            rfl
           refine pure_ (i := 6) (N := some 55) (v := ?_) (a' := ?_) (BT 12 639) rfl rfl (any_of HT_.out (by kernel_rfl)) (fun _ _ _ h => h) (Or.inl ⟨by rfl, ?_⟩) ?_ ?_
           rotate_left; · intro w'; go_simp; with_reducible rfl
           rotate_left; · simp only [Act.put, sI, sZ, sS, i64_w, i32_w]; rfl
           refine pure_ (i := 7) (N := some 62) (v := ?_) (a' := ?_) (BT 12 767) rfl rfl (any_of HT_.out (by kernel_rfl)) (fun _ _ _ h => h) (Or.inl ⟨by rfl, ?_⟩) ?_ ?_
           rotate_left; · intro w'; go_simp; with_reducible rfl
           rotate_left; · simp only [Act.put, sI, sZ, sS, i64_w, i32_w]; rfl
           refine pure_ (i := 8) (N := some 63) (v := ?_) (a' := ?_) (TF 10 2) rfl rfl (any_of HT_.out (by kernel_rfl)) (fun _ _ _ h => h) (Or.inl ⟨by rfl, ?_⟩) ?_ ?_
           rotate_left; · intro w'; go_simp; with_reducible rfl
           rotate_left; · simp only [Act.put, sI, sZ, sS, i64_w, i32_w]; rfl
           exact norm_ (by simp only [putAll, Act.put, sI, sZ, sS]) (hCont (v355, gb359) _ ⟨hHeld, (by exact Kd.N_to HO356.out), (by exact Kd.R_to HO_13.out), (by apply Kd.N_to; exact Kd.N_mono HO_14.out (fun _ hk => ⟨hk.2, ⟨hk.1.1.1, ⟨hk.1.1.2, hk.1.2⟩⟩⟩)), (by apply Kd.N_to; exact Kd.N_mono HO_346001.out (fun _ hk => ⟨hk.2, ⟨hk.1.1.1, ⟨hk.1.1.2.1, ⟨hk.1.1.2.2, hk.1.2⟩⟩⟩⟩)), (bT BK345.out), (bT BK359.out), GW359.out, GE359.out, NB345_359.out, NB359_345.out, bA⟩)
         rintro ⟨v355, gb359⟩ w47 ⟨hS_, h0_, h1_, h2_, h3_, h4_, h5_, h6_, h7_, h8_, h9_, h10_⟩
         have n0_ : Ax (Kd.N k44 44 w47 w.heap.size (fun k_ => some k_ ≠ (u13 : Value).ownBlock ∧ some k_ ≠ (u14 : Value).ownBlock ∧ k_ ≠ gb345 ∧ k_ ≠ gb359) v355 t354) := ⟨h0_⟩
         have n1_ : Ax (Kd.R (Kd.int .i64) 3 w47 w.heap.size (fun _ => True) u13 x13_2) := ⟨h1_⟩
         have n2_ : Ax (Kd.N k66 66 w47 w.heap.size (fun k_ => some k_ ≠ (v355 : Value).ownBlock ∧ some k_ ≠ (u13 : Value).ownBlock ∧ k_ ≠ gb345 ∧ k_ ≠ gb359) u14 x14_2) := ⟨h2_⟩
         have n3_ : Ax (Kd.N k44 44 w47 w.heap.size (fun k_ => some k_ ≠ (v355 : Value).ownBlock ∧ some k_ ≠ (u13 : Value).ownBlock ∧ some k_ ≠ (u14 : Value).ownBlock ∧ k_ ≠ gb345 ∧ k_ ≠ gb359) (.slice Ao43 x346001_2.length co43) x346001_2) := ⟨h3_⟩
         have n4_ : Ax (w47.heap[gb345]? = some (.cells #[.int .u64 x346000_2, .slice Ao43 x346001_2.length co43, .string x346002_2] 66 (0, 0))) := ⟨h4_⟩
         have n5_ : Ax (w47.heap[gb359]? = some (.cells #[.int .u64 0, .slice none 0 0, .string (⟨#[]⟩ : ByteArray)] 66 (0, 0))) := ⟨h5_⟩
         have n6_ : Ax (w.heap.size ≤ gb359) := ⟨h6_⟩
         have n7_ : Ax (w.heap.size ≤ gb359) := ⟨h7_⟩
         have n8_ : Ax (gb345 ≠ gb359) := ⟨h8_⟩
         have n9_ : Ax (gb359 ≠ gb345) := ⟨h9_⟩
         have n10_ : Ax (Below w.heap.size w w47) := ⟨h10_⟩
         clear HO_13
         clear HO_14
         clear HO_346001
         clear BK345
         clear HB
         clear h0_ h1_ h2_ h3_ h4_ h5_ h6_ h7_ h8_ h9_ h10_
         have HO356 := n0_
         have HO_13 := n1_
         have HO_14 := n2_
         have HO_346001 := n3_
         have BK345 := n4_
         have BK359 := n5_
         have GW359 := n6_
         have GE359 := n7_
         have NB345_359 := n8_
         have NB359_345 := n9_
         have HB := n10_
         clear n0_ n1_ n2_ n3_ n4_ n5_ n6_ n7_ n8_ n9_ n10_
         have hHeld : w47.cell? ⟨gb345, 0, none⟩ = some (.int .u64 x346000_2) ∧ w47.cell? ⟨gb345, 1, none⟩ = some (.slice Ao43 x346001_2.length co43) ∧ w47.cell? ⟨gb345, 2, none⟩ = some (.string x346002_2) ∧ w47.cell? (ad352.add (x15_2).toNat) = some (.slice A352_0 (rd_L4 l1 x15_2).length c352_0) := hS_
         obtain ⟨Ao49, co49, eo49⟩ := Kd.N_slice HO356.out
         (first | subst eo49 | (injection eo49 with f1_ f2_ f3_; have f4_ := f1_.symm; have f5_ := f3_.symm; clear f1_ f2_ f3_; subst f4_; subst f5_))
         refine norm_ (a' := ?_) ?_ ?_
         rotate_left
         ·simp only [putAll, Act.put, sI, sZ, sS]
          rfl
         refine one_ (i := 10) (N := none) (TF 11 1) rfl rfl (one_of HT_.out (by kernel_rfl)) (by decide) (fun K hK => ?_)
         have hs48 : w47.cell? ⟨gb359, 0, none⟩ = some (.int .u64 0) := (bC BK359.out 0).trans rfl
         have hfs48 := bF BK359.out 0
         have hns48_0 := NB345_359.out
         have hms48_0 := NB359_345.out
         have hs50 : w47.cell? ⟨gb359, 1, none⟩ = some (.slice none 0 0) := (bC BK359.out 1).trans rfl
         have hfs50 := bF BK359.out 1
         have hns50_0 := NB345_359.out
         have hms50_0 := NB359_345.out
         have hs51 : w47.cell? ⟨gb359, 2, none⟩ = some (.string (⟨#[]⟩ : ByteArray)) := (bC BK359.out 2).trans rfl
         have hfs51 := bF BK359.out 2
         have hns51_0 := NB345_359.out
         have hms51_0 := NB359_345.out
         refine skip_ (w1 := ?_) (by rfl) rfl ?_ ?_
         rotate_left
         ·go_simp
          rfl
         refine hK.out _ _ ⟨((cell_far (p := ⟨gb359, _, none⟩) NB345_359.out _).trans (((cell_far (p := ⟨gb359, _, none⟩) NB345_359.out _).trans (((cell_far (p := ⟨gb359, _, none⟩) NB345_359.out _).trans (hHeld.1)))))), ((cell_far (p := ⟨gb359, _, none⟩) NB345_359.out _).trans (((cell_far (p := ⟨gb359, _, none⟩) NB345_359.out _).trans (((cell_far (p := ⟨gb359, _, none⟩) NB345_359.out _).trans (hHeld.2.1)))))), ((cell_far (p := ⟨gb359, _, none⟩) NB345_359.out _).trans (((cell_far (p := ⟨gb359, _, none⟩) NB345_359.out _).trans (((cell_far (p := ⟨gb359, _, none⟩) NB345_359.out _).trans (hHeld.2.2.1)))))), ((cell_far (p := ⟨gb359, _, none⟩) (by first | exact Nat.ne_of_lt (Nat.lt_of_lt_of_le (by have := World.block_lt_of_cell? _ _ hw352_0; first | rwa [add_block] at this | exact this) GW359.out) | (rw [add_block]; exact Nat.ne_of_lt (Nat.lt_of_lt_of_le (by have := World.block_lt_of_cell? _ _ hw352_0; first | rwa [add_block] at this | exact this) GW359.out)) | (show (Addr.add _ _).block ≠ _; rw [add_block]; exact Nat.ne_of_lt (Nat.lt_of_lt_of_le (by have := World.block_lt_of_cell? _ _ hw352_0; first | rwa [add_block] at this | exact this) GW359.out)) | (dsimp only; exact Nat.ne_of_lt (Nat.lt_of_lt_of_le (by have := World.block_lt_of_cell? _ _ hw352_0; first | rwa [add_block] at this | exact this) GW359.out))) _).trans (((cell_far (p := ⟨gb359, _, none⟩) (by first | exact Nat.ne_of_lt (Nat.lt_of_lt_of_le (by have := World.block_lt_of_cell? _ _ hw352_0; first | rwa [add_block] at this | exact this) GW359.out) | (rw [add_block]; exact Nat.ne_of_lt (Nat.lt_of_lt_of_le (by have := World.block_lt_of_cell? _ _ hw352_0; first | rwa [add_block] at this | exact this) GW359.out)) | (show (Addr.add _ _).block ≠ _; rw [add_block]; exact Nat.ne_of_lt (Nat.lt_of_lt_of_le (by have := World.block_lt_of_cell? _ _ hw352_0; first | rwa [add_block] at this | exact this) GW359.out)) | (dsimp only; exact Nat.ne_of_lt (Nat.lt_of_lt_of_le (by have := World.block_lt_of_cell? _ _ hw352_0; first | rwa [add_block] at this | exact this) GW359.out))) _).trans (((cell_far (p := ⟨gb359, _, none⟩) (by first | exact Nat.ne_of_lt (Nat.lt_of_lt_of_le (by have := World.block_lt_of_cell? _ _ hw352_0; first | rwa [add_block] at this | exact this) GW359.out) | (rw [add_block]; exact Nat.ne_of_lt (Nat.lt_of_lt_of_le (by have := World.block_lt_of_cell? _ _ hw352_0; first | rwa [add_block] at this | exact this) GW359.out)) | (show (Addr.add _ _).block ≠ _; rw [add_block]; exact Nat.ne_of_lt (Nat.lt_of_lt_of_le (by have := World.block_lt_of_cell? _ _ hw352_0; first | rwa [add_block] at this | exact this) GW359.out)) | (dsimp only; exact Nat.ne_of_lt (Nat.lt_of_lt_of_le (by have := World.block_lt_of_cell? _ _ hw352_0; first | rwa [add_block] at this | exact this) GW359.out))) _).trans (hHeld.2.2.2))))))⟩ (fun hHeld => ?_)
         clear hK K
         refine pure_ (i := 11) (N := some 17) (v := ?_) (a' := ?_) (TF 12 0) rfl rfl (any_of HT_.out (by kernel_rfl)) (fun _ _ _ h => h) (Or.inl ⟨by rfl, ?_⟩) ?_ ?_
         rotate_left; · intro w'; go_simp; with_reducible rfl
         rotate_left; · simp only [Act.put, sI, sZ, sS, i64_w, i32_w]; rfl
         refine done_ (done_of HT_.out (by kernel_rfl)) ?_
         try go_wp2
         go_roundg k2
         case measure => have := HJ6.out; have := HK2.out; omega
         case rel => exact ⟨(x13_2), (x14_2), (wrap64 (x15_2 + 1)), (x346000_2), (x346001_2), (x346002_2), (.slice Ao43 x346001_2.length co43), (by first | rfl | (simp; done) | (simp [*]; done)), H', ⟨by have := HJ6.out; have := HK2.out; omega⟩, ⟨by apply Kd.R_to; exact Kd.R_mono (Kd.R_far (p := ⟨gb359, 2, none⟩) (Kd.R_far (p := ⟨gb359, 1, none⟩) (Kd.R_far (p := ⟨gb359, 0, none⟩) (Kd.R_types HO_13.out BK359.out (by decide)) (fun _ hk => hk.2) (.int .u64 t353)) (fun _ hk => hk.2) (.slice Ao49 t354.length co49)) (fun _ hk => hk.2) (.string t357)) (fun _ hk => trivial)⟩, ⟨by apply Kd.N_to; exact Kd.N_mono (Kd.N_far (p := ⟨gb359, 2, none⟩) (Kd.N_far (p := ⟨gb359, 1, none⟩) (Kd.N_far (p := ⟨gb359, 0, none⟩) (Kd.N_mono HO_14.out (fun k_ hk => (⟨hk, hk.2.2.2⟩ : _ ∧ k_ ≠ gb359))) (fun _ hk => hk.2) (.int .u64 t353)) (fun _ hk => hk.2) (.slice Ao49 t354.length co49)) (fun _ hk => hk.2) (.string t357)) (fun _ hk => ⟨hk.1.2.1, hk.1.2.2.1⟩)⟩, ⟨by apply Kd.N_to; exact Kd.N_mono (Kd.N_far (p := ⟨gb359, 2, none⟩) (Kd.N_far (p := ⟨gb359, 1, none⟩) (Kd.N_far (p := ⟨gb359, 0, none⟩) (Kd.N_mono HO_346001.out (fun k_ hk => (⟨hk, hk.2.2.2.2⟩ : _ ∧ k_ ≠ gb359))) (fun _ hk => hk.2) (.int .u64 t353)) (fun _ hk => hk.2) (.slice Ao49 t354.length co49)) (fun _ hk => hk.2) (.string t357)) (fun _ hk => ⟨hk.1.2.1, ⟨hk.1.2.2.1, hk.1.2.2.2.1⟩⟩)⟩, ⟨by refine bT ?_; refine bR ?_ NB345_359.out _; refine bT ?_; refine bR ?_ NB345_359.out _; refine bT ?_; refine bR ?_ NB345_359.out _; refine bT ?_; exact BK345.out⟩, ⟨bA⟩⟩
       ·rw [if_neg c23] at H
        exact absurd H (by simp)
      ·rw [if_neg c22] at H
       have c22b0 : decide (x15_2 < (l1.length : Int)) = false := decide_eq_false c22
       clear c22
       obtain ⟨ji52, hji52⟩ : ∃ j_ : Int, (mn a2 (x346002_2.size : Int)) = j_ := ⟨_, rfl⟩
       replace H : (l13_JournalTorn.l1 k2 (mx 0 (ji52)) a3 x13_2 x14_2 0 x346000_2 x346001_2 x346002_2) = some r := by first | (rw [hji52] at H; exact H) | (simp only [hji52] at H ⊢; exact H)
       have hji52_ : (if (x346002_2.size : Int) < a2 then (x346002_2.size : Int) else a2) = ji52 := hji52
       obtain ⟨ji53, hji53⟩ : ∃ j_ : Int, (mx 0 (ji52)) = j_ := ⟨_, rfl⟩
       replace H : (l13_JournalTorn.l1 k2 ji53 a3 x13_2 x14_2 0 x346000_2 x346001_2 x346002_2) = some r := by first | (rw [hji53] at H; exact H) | (simp only [hji53] at H ⊢; exact H)
       have hji53_ : (if 0 < (ji52) then (ji52) else 0) = ji53 := hji53
       have HC54 := Ax.mk H
       clear H
       have hcz55_0 : wr.cell? ⟨gb345, 0, none⟩ = some (.int .u64 x346000_2) := (bC BK345.out 0).trans rfl
       have hcz55_1 : wr.cell? ⟨gb345, 1, none⟩ = some (u346001) := (bC BK345.out 1).trans rfl
       have hcz55_2 : wr.cell? ⟨gb345, 2, none⟩ = some (.string x346002_2) := (bC BK345.out 2).trans rfl
       have hfz55_0 := bF BK345.out 0
       have hfz55_1 := bF BK345.out 1
       have hfz55_2 := bF BK345.out 2
       go_upto_block 2 with (fail)
       go_cut [18] (fun v18 wc => ∃ (kq : Nat) (x18_53 : Int), v18 = .int .i64 x18_53 ∧ Ax (l13_JournalTorn.j3 kq ji53 a3 x13_2 x14_2 x18_53 x346000_2 x346001_2 x346002_2 = some r) ∧ Ax (kq ≤ k2) ∧ Ax (Kd.R (Kd.int .i64) 3 wc w.heap.size (fun _ => True) u13 x13_2) ∧ Ax (Kd.N k66 66 wc w.heap.size (fun k_ => some k_ ≠ (u13 : Value).ownBlock ∧ k_ ≠ gb345) u14 x14_2) ∧ Ax (Kd.N k44 44 wc w.heap.size (fun k_ => some k_ ≠ (u13 : Value).ownBlock ∧ some k_ ≠ (u14 : Value).ownBlock ∧ k_ ≠ gb345) u346001 x346001_2) ∧ Ax (wc.heap[gb345]? = some (.cells #[.int .u64 x346000_2, u346001, .string x346002_2] 66 (0, 0))) ∧ Ax (Below w.heap.size w wc))
       case first =>
        have H := HC54.out
        clear HC54
        have H' := Ax.mk H
        clear H
        go_wp2
        go_loopg [18] k2 (fun kq v18 w' => ∃ (x18_3 : Int), v18 = .int .i64 x18_3 ∧ Ax (l13_JournalTorn.l1 kq ji53 a3 x13_2 x14_2 x18_3 x346000_2 x346001_2 x346002_2 = some r) ∧ Ax (kq ≤ k2) ∧ Ax (Kd.R (Kd.int .i64) 3 w' w.heap.size (fun _ => True) u13 x13_2) ∧ Ax (Kd.N k66 66 w' w.heap.size (fun k_ => some k_ ≠ (u13 : Value).ownBlock ∧ k_ ≠ gb345) u14 x14_2) ∧ Ax (Kd.N k44 44 w' w.heap.size (fun k_ => some k_ ≠ (u13 : Value).ownBlock ∧ some k_ ≠ (u14 : Value).ownBlock ∧ k_ ≠ gb345) u346001 x346001_2) ∧ Ax (w'.heap[gb345]? = some (.cells #[.int .u64 x346000_2, u346001, .string x346002_2] 66 (0, 0))) ∧ Ax (Below w.heap.size w w'))
        case atStart => exact ⟨(0), (by first | rfl | (simp; done) | (simp [*]; done)), H', ⟨Nat.le_refl _⟩, ⟨by apply Kd.R_to; exact HO_13.out⟩, ⟨by apply Kd.N_to; exact HO_14.out⟩, ⟨by apply Kd.N_to; exact HO_346001.out⟩, ⟨by refine bT ?_; exact BK345.out⟩, ⟨bA⟩⟩
        case round =>
         clear H'
         try clear c2
         try clear p2
         try clear c3
         try clear p3
         try clear q3
         try clear hx3
         try clear p6
         try clear c22
         try clear c22b0
         try clear c23
         try clear c25
         try clear c25b0
         try clear c25b1
         try clear c26
         try clear c27
         try clear c35
         try clear p35
         try clear q35
         try clear hx35
         try clear c37
         try clear c39
         try clear hcz38_0
         try clear hcz38_1
         try clear hcz38_2
         try clear hcz39_0
         try clear hcz39_1
         try clear hcz39_2
         try clear hcz41_0
         try clear hcz41_1
         try clear hcz41_2
         try clear hcz55_0
         try clear hcz55_1
         try clear hcz55_2
         try clear hfz38_0
         try clear hfz38_1
         try clear hfz38_2
         try clear hfz39_0
         try clear hfz39_1
         try clear hfz39_2
         try clear hfz41_0
         try clear hfz41_1
         try clear hfz41_2
         try clear hfz55_0
         try clear hfz55_1
         try clear hfz55_2
         try clear hx352_0
         try clear p352
         try clear q352
         obtain ⟨x18_3, rfl, HA, HK3, HO_13, HO_14, HO_346001, BK345, HB⟩ := hrel
         cases gk with
         | zero => exact absurd HA.out (by simp [l13_JournalTorn.l1])
         | succ k3 =>
          have H := HA.out
          clear HA
          simp only [l13_JournalTorn.l1] at H
          by_cases c56 : x18_3 < (x13_2.length : Int)
          ·rw [if_pos c56] at H
           have c56b0 : decide (x18_3 < (x13_2.length : Int)) = true := decide_eq_true c56
           clear c56
           (first | rw [c56b0] | (simp only [i64_w, i32_w]; rw [c56b0]) | skip)
           by_cases c57 : 0 ≤ x18_3
           ·rw [if_pos c57] at H
            have c57b0 : decide (0 ≤ x18_3) = true := decide_eq_true c57
            clear c57
            by_cases c58 : (rd x13_2 x18_3) ≤ ji53
            ·rw [if_pos c58] at H
             have c58b0 : decide ((rd x13_2 x18_3) ≤ ji53) = true := decide_eq_true c58
             clear c58
             have H' := Ax.mk H
             clear H
             obtain ⟨Ao59, co59, eo59⟩ := Kd.R_slice HO_13.out
             subst eo59
             have p366 : 0 ≤ (x18_3 : Int) := ofD
             have q366 : x18_3 < (x13_2.length : Int) := ofD
             obtain ⟨ad366, e366, hx366_0⟩ := Kd.at_int (Kd.R_reads' HO_13.out).2.2 x18_3 p366 q366
             cases e366
             replace p366 := eq_true p366
             replace q366 := eq_true q366
             go_wp2
             go_roundg k3
             case measure => have := HJ6.out; have := HK2.out; have := HK3.out; omega
             case rel => exact ⟨(wrap64 (x18_3 + 1)), (by first | rfl | (simp; done) | (simp [*]; done)), H', ⟨by have := HJ6.out; have := HK2.out; have := HK3.out; omega⟩, ⟨by apply Kd.R_to; exact HO_13.out⟩, ⟨by apply Kd.N_to; exact HO_14.out⟩, ⟨by apply Kd.N_to; exact HO_346001.out⟩, ⟨by refine bT ?_; exact BK345.out⟩, ⟨bA⟩⟩
            ·rw [if_neg c58] at H
             have c58b0 : decide ((rd x13_2 x18_3) ≤ ji53) = false := decide_eq_false c58
             clear c58
             have H' := Ax.mk H
             clear H
             obtain ⟨Ao60, co60, eo60⟩ := Kd.R_slice HO_13.out
             subst eo60
             have p366 : 0 ≤ (x18_3 : Int) := ofD
             have q366 : x18_3 < (x13_2.length : Int) := ofD
             obtain ⟨ad366, e366, hx366_0⟩ := Kd.at_int (Kd.R_reads' HO_13.out).2.2 x18_3 p366 q366
             cases e366
             replace p366 := eq_true p366
             replace q366 := eq_true q366
             go_wp2
             go_meet
             case rel => exact ⟨_, (x18_3), (by first | rfl | (simp; done) | (simp [*]; done)), H', ⟨by have := HJ6.out; have := HK2.out; have := HK3.out; first | omega | exact Nat.le_refl _⟩, ⟨by apply Kd.R_to; exact HO_13.out⟩, ⟨by apply Kd.N_to; exact HO_14.out⟩, ⟨by apply Kd.N_to; exact HO_346001.out⟩, ⟨by refine bT ?_; exact BK345.out⟩, ⟨bA⟩⟩
           ·rw [if_neg c57] at H
            exact absurd H (by simp)
          ·rw [if_neg c56] at H
           have c56b0 : decide (x18_3 < (x13_2.length : Int)) = false := decide_eq_false c56
           clear c56
           (first | rw [c56b0] | (simp only [i64_w, i32_w]; rw [c56b0]) | skip)
           have H' := Ax.mk H
           clear H
           obtain ⟨Ao61, co61, eo61⟩ := Kd.R_slice HO_13.out
           subst eo61
           go_wp2
           go_meet
           case rel => exact ⟨_, (x18_3), (by first | rfl | (simp; done) | (simp [*]; done)), H', ⟨by have := HJ6.out; have := HK2.out; have := HK3.out; first | omega | exact Nat.le_refl _⟩, ⟨by apply Kd.R_to; exact HO_13.out⟩, ⟨by apply Kd.N_to; exact HO_14.out⟩, ⟨by apply Kd.N_to; exact HO_346001.out⟩, ⟨by refine bT ?_; exact BK345.out⟩, ⟨bA⟩⟩
       case rest =>
        clear HC54
        try clear c2
        try clear p2
        try clear c3
        try clear p3
        try clear q3
        try clear hx3
        try clear c5
        try clear p6
        try clear c22
        try clear c22b0
        try clear c23
        try clear c25
        try clear c25b0
        try clear c25b1
        try clear c26
        try clear c27
        try clear c35
        try clear p35
        try clear q35
        try clear hx35
        try clear p36
        try clear q36
        try clear hx36
        try clear c37
        try clear c39
        try clear c56
        try clear c56b0
        try clear c57
        try clear c57b0
        try clear c58
        try clear c58b0
        try clear hcz38_0
        try clear hcz38_1
        try clear hcz38_2
        try clear hcz39_0
        try clear hcz39_1
        try clear hcz39_2
        try clear hcz41_0
        try clear hcz41_1
        try clear hcz41_2
        try clear hcz55_0
        try clear hcz55_1
        try clear hcz55_2
        try clear hfz38_0
        try clear hfz38_1
        try clear hfz38_2
        try clear hfz39_0
        try clear hfz39_1
        try clear hfz39_2
        try clear hfz41_0
        try clear hfz41_1
        try clear hfz41_2
        try clear hfz55_0
        try clear hfz55_1
        try clear hfz55_2
        try clear hx352_0
        try clear hx366_0
        try clear p2
        try clear p3
        try clear p35
        try clear p352
        try clear p366
        try clear p6
        try clear q3
        try clear q35
        try clear q352
        try clear q366
        obtain ⟨kq, x18_53, rfl, HA, HJ53, HO_13, HO_14, HO_346001, BK345, HB⟩ := hcut
        cases kq with
        | zero => exact absurd HA.out (by simp [l13_JournalTorn.j3])
        | succ kj53 =>
         have H := HA.out
         clear HA
         simp only [l13_JournalTorn.j3] at H
         by_cases c62 : 0 ≤ ji53
         ·rw [if_pos c62] at H
          have c62b0 := eq_true c62
          have c62b1 : decide (0 ≤ ji53) = true := decide_eq_true c62
          clear c62
          by_cases c63 : ji53 ≤ (x346002_2.size : Int)
          ·rw [if_pos c63] at H
           have c63b0 := eq_true c63
           have c63b1 : decide (ji53 ≤ (x346002_2.size : Int)) = true := decide_eq_true c63
           clear c63
           replace H := Option.bind_eq_some_iff.mp H
           obtain ⟨⟨t367, t368, t371, t372⟩, A640, H⟩ := H
           replace H : (if x18_53 = 0 then (if t372 = 0 then (if (t368.length : Int) = 0 then (if t367 = 0 then (if x18_53 > 0 then (if 0 ≤ (wrap64 (x18_53 - 1)) then (if (wrap64 (x18_53 - 1)) < (x13_2.length : Int) then (if t372 = (rd x13_2 (wrap64 (x18_53 - 1))) then (if (wrap64 (x18_53 - 1)) < (x14_2.length : Int) then (if t371.toList = ((rd_T66 x14_2 (wrap64 (x18_53 - 1))).f2).toList then (if t367 = ((rd_T66 x14_2 (wrap64 (x18_53 - 1))).f0) then (l13_JournalTorn.j4 kj53 a3 ((t368.length : Int) != x18_53) x346000_2 x346001_2 x346002_2) else (none)) else (none)) else (none)) else (none)) else (none)) else (none)) else (l13_JournalTorn.j4 kj53 a3 false x346000_2 x346001_2 x346002_2)) else (none)) else (none)) else (none)) else (if x18_53 > 0 then (if 0 ≤ (wrap64 (x18_53 - 1)) then (if (wrap64 (x18_53 - 1)) < (x13_2.length : Int) then (if t372 = (rd x13_2 (wrap64 (x18_53 - 1))) then (if (wrap64 (x18_53 - 1)) < (x14_2.length : Int) then (if t371.toList = ((rd_T66 x14_2 (wrap64 (x18_53 - 1))).f2).toList then (if t367 = ((rd_T66 x14_2 (wrap64 (x18_53 - 1))).f0) then (l13_JournalTorn.j4 kj53 a3 ((t368.length : Int) != x18_53) x346000_2 x346001_2 x346002_2) else (none)) else (none)) else (none)) else (none)) else (none)) else (none)) else (l13_JournalTorn.j4 kj53 a3 false x346000_2 x346001_2 x346002_2))) = some r := H
           have A64 := Ax.mk A640
           clear A640
           have HC65 := Ax.mk H
           clear H
           have hcz66_0 : wc.cell? ⟨gb345, 0, none⟩ = some (.int .u64 x346000_2) := (bC BK345.out 0).trans rfl
           have hcz66_1 : wc.cell? ⟨gb345, 1, none⟩ = some (u346001) := (bC BK345.out 1).trans rfl
           have hcz66_2 : wc.cell? ⟨gb345, 2, none⟩ = some (.string x346002_2) := (bC BK345.out 2).trans rfl
           have hfz66_0 := bF BK345.out 0
           have hfz66_1 := bF BK345.out 1
           have hfz66_2 := bF BK345.out 2
           go_upto_region 21 with (first | ((with_reducible refine gate_callee (f := 44) rfl ?_); refine goesL_ (some 102) rfl rfl Tryd.func44 (by kernel_rfl) rfl #[.string (x346002_2.extract 0 (ji53 : Int).toNat)] rfl (by (try simp only [List.map_toArray, List.map_cons, List.map_nil]); first | done | (simp only [hji53]; rfl) | rfl | (simp only [List.length_drop, List.length_take]; rfl) | (rw [wrap_sum2 (by assumption)]; rfl)) ?_; (with_reducible refine (journal_Read.calls kj53 (x346002_2.extract 0 (ji53 : Int).toNat) t367 t368 t371 t372 _ A64.out (HT.below bA)).mono ?_); rintro e w67 ⟨v369, rfl, ho0, hb⟩; refine ⟨_, rfl, ?_⟩; have n0_ := Ax.mk (Kd.R_below (by exact Kd.R_to HO_13.out) hb); have n1_ := Ax.mk (Kd.N_elder' (by exact Kd.N_to HO_14.out) (Kd.N_base ho0) hb); have n2_ := Ax.mk (Kd.N_elder' (by exact Kd.N_to HO_346001.out) (Kd.N_base ho0) hb); have n3_ := Ax.mk (Kd.N_lower (Kd.N_mono (ok' := fun k_ => some k_ ≠ (u13 : Value).ownBlock ∧ some k_ ≠ (u14 : Value).ownBlock ∧ some k_ ≠ (u346001 : Value).ownBlock ∧ k_ ≠ gb345) ho0 (fun k_ hk_ => ⟨(Kd.fresh' (Kd.R_lt (by exact Kd.R_to HO_13.out)) k_ hk_), (Kd.fresh' (Kd.N_lt (by exact Kd.N_to HO_14.out)) k_ hk_), (Kd.fresh' (Kd.N_lt (by exact Kd.N_to HO_346001.out)) k_ hk_), (Kd.freshB (g := gb345) (o := .cells #[.int .u64 x346000_2, u346001, .string x346002_2] 66 (0, 0)) (bT BK345.out) k_ hk_)⟩)) (bS bA)); have n4_ := Ax.mk (bB (bT BK345.out) hb); have n5_ := Ax.mk (bP bA hb); clear HO_13; clear HO_14; clear HO_346001; clear BK345; clear HB; have HO_13 := n0_; have HO_14 := n1_; have HO_346001 := n2_; have HO370 := n3_; have BK345 := n4_; have HB := n5_; clear n0_ n1_ n2_ n3_ n4_ n5_; (try clear hb); (try clear hb2); (try clear hk); (try clear hi); (try clear ho0)) | ((with_reducible refine gate_dst (N := 19) rfl ?_); (try (refine gate_guard (by rfl) ?_; dsimp only)); refine box_event ?hg (N := 19) ?hd (cs := #[.int .u64 0, .slice none 0 0, .string (⟨#[]⟩ : ByteArray)]) (t := 66) ?hr ?_; (case hd => rfl); (case hg => rfl); (case hr => first | (go_simp; done) | (go_simp; rfl)); intro gb373 hg w68 hbox hb; have n0_ := Ax.mk (Kd.R_below (by exact Kd.R_to HO_13.out) hb); have n1_ := Ax.mk (Kd.N_below (Kd.N_elderB (by exact Kd.N_to HO_14.out) gb373 (Nat.le_of_eq hg.symm)) hb); have n2_ := Ax.mk (Kd.N_below (Kd.N_elderB (by exact Kd.N_to HO_346001.out) gb373 (Nat.le_of_eq hg.symm)) hb); have n3_ := Ax.mk (Kd.N_below (Kd.N_elderB (by exact Kd.N_to HO370.out) gb373 (Nat.le_of_eq hg.symm)) hb); have n4_ := Ax.mk (bB (bT BK345.out) hb); have n5_ := Ax.mk (bP bA hb); have n6_ := Ax.mk (hbox); have n7_ := Ax.mk ((ge_new hg : w.heap.size ≤ gb373)); have n8_ := n7_; have n9_ := Ax.mk ((ne_lt hg BK345.out : gb345 ≠ gb373)); have n10_ := Ax.mk ((ne_gt hg BK345.out : gb373 ≠ gb345)); clear HO_13; clear HO_14; clear HO_346001; clear HO370; clear BK345; clear HB; have HO_13 := n0_; have HO_14 := n1_; have HO_346001 := n2_; have HO370 := n3_; have BK345 := n4_; have HB := n5_; have BK373 := n6_; have GW373 := n7_; have GE373 := n8_; have NB345_373 := n9_; have NB373_345 := n10_; clear n0_ n1_ n2_ n3_ n4_ n5_ n6_ n7_ n8_ n9_ n10_; clear hb hbox hg; have hnb69 := NB373_345.out; have hnc69 := NB345_373.out; have hcz70_0 : w68.cell? ⟨gb373, 0, none⟩ = some (.int .u64 0) := (bC BK373.out 0).trans rfl; have hcz70_1 : w68.cell? ⟨gb373, 1, none⟩ = some (.slice none 0 0) := (bC BK373.out 1).trans rfl; have hcz70_2 : w68.cell? ⟨gb373, 2, none⟩ = some (.string (⟨#[]⟩ : ByteArray)) := (bC BK373.out 2).trans rfl; have hfz70_0 := bF BK373.out 0; have hfz70_1 := bF BK373.out 1; have hfz70_2 := bF BK373.out 2; obtain ⟨Ao71, co71, eo71⟩ := Kd.N_slice HO370.out; subst eo71))
           (try simp only [Act.put, sI, sZ, sS])
           go_cut [163] (fun v163 wc => ∃ (kq : Nat) (x163_64 : Bool), v163 = .bool x163_64 ∧ Ax (l13_JournalTorn.j4 kq a3 x163_64 x346000_2 x346001_2 x346002_2 = some r) ∧ Ax (kq ≤ kj53) ∧ Ax (Kd.N k44 44 wc w.heap.size (fun k_ => some k_ ≠ ((.slice Ao71 t368.length co71) : Value).ownBlock ∧ k_ ≠ gb345 ∧ k_ ≠ gb373) u346001 x346001_2) ∧ Ax (Kd.N k44 44 wc w.heap.size (fun k_ => some k_ ≠ (u346001 : Value).ownBlock ∧ k_ ≠ gb345 ∧ k_ ≠ gb373) (.slice Ao71 t368.length co71) t368) ∧ Ax (wc.heap[gb345]? = some (.cells #[.int .u64 x346000_2, u346001, .string x346002_2] 66 (0, 0))) ∧ Ax (wc.heap[gb373]? = some (.cells #[.int .u64 t367, (.slice Ao71 t368.length co71), .string t371] 66 (0, 0))) ∧ Ax (Below w.heap.size w wc))
           case first =>
            have H := HC65.out
            clear HC65
            by_cases c72 : x18_53 = 0
            ·rw [if_pos c72] at H
             have c72b0 : (x18_53 == 0) = true := beq_iff_eq.mpr c72
             have c72b1 : (x18_53 != 0) = false := bne_eq_false_iff_eq.mpr c72
             clear c72
             (first | rw [c72b0] | (simp only [i64_w, i32_w]; rw [c72b0]) | skip)
             by_cases c73 : t372 = 0
             ·rw [if_pos c73] at H
              have c73b0 : (t372 == 0) = true := beq_iff_eq.mpr c73
              have c73b1 : (t372 != 0) = false := bne_eq_false_iff_eq.mpr c73
              clear c73
              by_cases c74 : (t368.length : Int) = 0
              ·rw [if_pos c74] at H
               have c74b0 : ((t368.length : Int) == 0) = true := beq_iff_eq.mpr c74
               have c74b1 : ((t368.length : Int) != 0) = false := bne_eq_false_iff_eq.mpr c74
               clear c74
               by_cases c75 : t367 = 0
               ·rw [if_pos c75] at H
                have c75b0 : (t367 == 0) = true := beq_iff_eq.mpr c75
                have c75b1 : (t367 != 0) = false := bne_eq_false_iff_eq.mpr c75
                clear c75
                by_cases c76 : x18_53 > 0
                ·rw [if_pos c76] at H
                 have c76b0 : decide (0 < x18_53) = true := decide_eq_true c76
                 clear c76
                 obtain ⟨ji77, hji77⟩ : ∃ j_ : Int, (wrap64 (x18_53 - 1)) = j_ := ⟨_, rfl⟩
                 replace H : (if 0 ≤ (ji77) then (if (ji77) < (x13_2.length : Int) then (if t372 = (rd x13_2 (ji77)) then (if (ji77) < (x14_2.length : Int) then (if t371.toList = ((rd_T66 x14_2 (ji77)).f2).toList then (if t367 = ((rd_T66 x14_2 (ji77)).f0) then (l13_JournalTorn.j4 kj53 a3 ((t368.length : Int) != x18_53) x346000_2 x346001_2 x346002_2) else (none)) else (none)) else (none)) else (none)) else (none)) else (none)) = some r := by first | (rw [hji77] at H; exact H) | (simp only [hji77] at H ⊢; exact H)
                 have hji77w : (IntKind.i64.wrap (x18_53 - 1)) = ji77 := (i64_w _).trans hji77
                 by_cases c78 : 0 ≤ (ji77)
                 ·rw [if_pos c78] at H
                  have c78b0 : decide (0 ≤ (ji77)) = true := decide_eq_true c78
                  clear c78
                  by_cases c79 : (ji77) < (x13_2.length : Int)
                  ·rw [if_pos c79] at H
                   have c79b0 : decide ((ji77) < (x13_2.length : Int)) = true := decide_eq_true c79
                   clear c79
                   by_cases c80 : t372 = (rd x13_2 (ji77))
                   ·rw [if_pos c80] at H
                    have c80b0 : (t372 == (rd x13_2 (ji77))) = true := beq_iff_eq.mpr c80
                    have c80b1 : (t372 != (rd x13_2 (ji77))) = false := bne_eq_false_iff_eq.mpr c80
                    clear c80
                    by_cases c81 : (ji77) < (x14_2.length : Int)
                    ·rw [if_pos c81] at H
                     have c81b0 : decide ((ji77) < (x14_2.length : Int)) = true := decide_eq_true c81
                     clear c81
                     by_cases c82 : t371.toList = ((rd_T66 x14_2 (ji77)).f2).toList
                     ·rw [if_pos c82] at H
                      have c82b0 : (t371.toList == ((rd_T66 x14_2 (ji77)).f2).toList) = true := beq_iff_eq.mpr c82
                      have c82b1 : (t371.toList != ((rd_T66 x14_2 (ji77)).f2).toList) = false := bne_eq_false_iff_eq.mpr c82
                      clear c82
                      by_cases c83 : t367 = ((rd_T66 x14_2 (ji77)).f0)
                      ·rw [if_pos c83] at H
                       have c83b0 : (t367 == ((rd_T66 x14_2 (ji77)).f0)) = true := beq_iff_eq.mpr c83
                       have c83b1 : (t367 != ((rd_T66 x14_2 (ji77)).f0)) = false := bne_eq_false_iff_eq.mpr c83
                       clear c83
                       have H' := Ax.mk H
                       clear H
                       try go_wp2
                       have n0_ : Ax (Kd.R (Kd.int .i64) 3 (((w68.setCell ⟨gb373, 0, none⟩ (.int .u64 t367)).setCell ⟨gb373, 1, none⟩ (.slice Ao71 t368.length co71)).setCell ⟨gb373, 2, none⟩ (.string t371)) w.heap.size (fun _ => True) u13 x13_2) := ⟨by apply Kd.R_to; exact Kd.R_mono (Kd.R_far (p := ⟨gb373, 2, none⟩) (Kd.R_far (p := ⟨gb373, 1, none⟩) (Kd.R_far (p := ⟨gb373, 0, none⟩) (Kd.R_types HO_13.out BK373.out (by decide)) (fun _ hk => hk.2) (.int .u64 t367)) (fun _ hk => hk.2) (.slice Ao71 t368.length co71)) (fun _ hk => hk.2) (.string t371)) (fun _ hk => trivial)⟩
                       have n1_ : Ax (Kd.N k66 66 (((w68.setCell ⟨gb373, 0, none⟩ (.int .u64 t367)).setCell ⟨gb373, 1, none⟩ (.slice Ao71 t368.length co71)).setCell ⟨gb373, 2, none⟩ (.string t371)) w.heap.size (fun k_ => some k_ ≠ (u13 : Value).ownBlock ∧ some k_ ≠ (.slice Ao71 t368.length co71 : Value).ownBlock ∧ k_ ≠ gb345 ∧ k_ ≠ gb373) u14 x14_2) := ⟨by apply Kd.N_to; exact Kd.N_mono (Kd.N_far (p := ⟨gb373, 2, none⟩) (Kd.N_far (p := ⟨gb373, 1, none⟩) (Kd.N_far (p := ⟨gb373, 0, none⟩) (Kd.N_mono HO_14.out (fun k_ hk => (⟨hk, hk.2⟩ : _ ∧ k_ ≠ gb373))) (fun _ hk => hk.2) (.int .u64 t367)) (fun _ hk => hk.2) (.slice Ao71 t368.length co71)) (fun _ hk => hk.2) (.string t371)) (fun _ hk => ⟨hk.1.1.1.1, ⟨hk.1.1.2, ⟨hk.1.1.1.2, hk.1.2⟩⟩⟩)⟩
                       have n2_ : Ax (Kd.N k44 44 (((w68.setCell ⟨gb373, 0, none⟩ (.int .u64 t367)).setCell ⟨gb373, 1, none⟩ (.slice Ao71 t368.length co71)).setCell ⟨gb373, 2, none⟩ (.string t371)) w.heap.size (fun k_ => some k_ ≠ (u13 : Value).ownBlock ∧ some k_ ≠ (u14 : Value).ownBlock ∧ some k_ ≠ (.slice Ao71 t368.length co71 : Value).ownBlock ∧ k_ ≠ gb345 ∧ k_ ≠ gb373) u346001 x346001_2) := ⟨by apply Kd.N_to; exact Kd.N_mono (Kd.N_far (p := ⟨gb373, 2, none⟩) (Kd.N_far (p := ⟨gb373, 1, none⟩) (Kd.N_far (p := ⟨gb373, 0, none⟩) (Kd.N_mono HO_346001.out (fun k_ hk => (⟨hk, hk.2⟩ : _ ∧ k_ ≠ gb373))) (fun _ hk => hk.2) (.int .u64 t367)) (fun _ hk => hk.2) (.slice Ao71 t368.length co71)) (fun _ hk => hk.2) (.string t371)) (fun _ hk => ⟨hk.1.1.1.1, ⟨hk.1.1.1.2.1, ⟨hk.1.1.2, ⟨hk.1.1.1.2.2, hk.1.2⟩⟩⟩⟩)⟩
                       have n3_ : Ax (Kd.N k44 44 (((w68.setCell ⟨gb373, 0, none⟩ (.int .u64 t367)).setCell ⟨gb373, 1, none⟩ (.slice Ao71 t368.length co71)).setCell ⟨gb373, 2, none⟩ (.string t371)) w.heap.size (fun k_ => some k_ ≠ (u13 : Value).ownBlock ∧ some k_ ≠ (u14 : Value).ownBlock ∧ some k_ ≠ (u346001 : Value).ownBlock ∧ k_ ≠ gb345 ∧ k_ ≠ gb373) (.slice Ao71 t368.length co71) t368) := ⟨by apply Kd.N_to; exact Kd.N_mono (Kd.N_far (p := ⟨gb373, 2, none⟩) (Kd.N_far (p := ⟨gb373, 1, none⟩) (Kd.N_far (p := ⟨gb373, 0, none⟩) (Kd.N_mono HO370.out (fun k_ hk => (⟨hk, hk.2⟩ : _ ∧ k_ ≠ gb373))) (fun _ hk => hk.2) (.int .u64 t367)) (fun _ hk => hk.2) (.slice Ao71 t368.length co71)) (fun _ hk => hk.2) (.string t371)) (fun _ hk => ⟨hk.1.1.1, ⟨hk.1.1.2.1, ⟨hk.1.1.2.2.1, ⟨hk.1.1.2.2.2, hk.1.2⟩⟩⟩⟩)⟩
                       have n4_ : Ax ((((w68.setCell ⟨gb373, 0, none⟩ (.int .u64 t367)).setCell ⟨gb373, 1, none⟩ (.slice Ao71 t368.length co71)).setCell ⟨gb373, 2, none⟩ (.string t371)).heap[gb345]? = some (.cells #[.int .u64 x346000_2, u346001, .string x346002_2] 66 (0, 0))) := ⟨by refine bT ?_; refine bR ?_ NB345_373.out _; refine bT ?_; refine bR ?_ NB345_373.out _; refine bT ?_; refine bR ?_ NB345_373.out _; refine bT ?_; exact BK345.out⟩
                       have n5_ : Ax ((((w68.setCell ⟨gb373, 0, none⟩ (.int .u64 t367)).setCell ⟨gb373, 1, none⟩ (.slice Ao71 t368.length co71)).setCell ⟨gb373, 2, none⟩ (.string t371)).heap[gb373]? = some (.cells #[.int .u64 t367, .slice Ao71 t368.length co71, .string t371] 66 (0, 0))) := ⟨by refine bT ?_; refine bU (cs := #[.int .u64 t367, .slice Ao71 t368.length co71, .string (⟨#[]⟩ : ByteArray)]) ?_ 2 _ rfl; refine bT ?_; refine bU (cs := #[.int .u64 t367, .slice none 0 0, .string (⟨#[]⟩ : ByteArray)]) ?_ 1 _ rfl; refine bT ?_; refine bU (cs := #[.int .u64 0, .slice none 0 0, .string (⟨#[]⟩ : ByteArray)]) ?_ 0 _ rfl; refine bT ?_; exact BK373.out⟩
                       have n6_ : Ax (Below w.heap.size w (((w68.setCell ⟨gb373, 0, none⟩ (.int .u64 t367)).setCell ⟨gb373, 1, none⟩ (.slice Ao71 t368.length co71)).setCell ⟨gb373, 2, none⟩ (.string t371))) := ⟨bA⟩
                       (try clear HO_13)
                       (try clear HO_14)
                       (try clear HO_346001)
                       (try clear HO370)
                       (try clear BK345)
                       (try clear BK373)
                       (try clear HB)
                       generalize (((w68.setCell ⟨gb373, 0, none⟩ (.int .u64 t367)).setCell ⟨gb373, 1, none⟩ (.slice Ao71 t368.length co71)).setCell ⟨gb373, 2, none⟩ (.string t371)) = w84 at n0_ n1_ n2_ n3_ n4_ n5_ n6_ ⊢
                       have HO_13 := n0_
                       have HO_14 := n1_
                       have HO_346001 := n2_
                       have HO370 := n3_
                       have BK345 := n4_
                       have BK373 := n5_
                       have HB := n6_
                       clear n0_ n1_ n2_ n3_ n4_ n5_ n6_
                       have n0_ := Ax.mk (Kd.R_drew HO_13.out)
                       have n1_ := Ax.mk (Kd.N_drew HO_14.out)
                       have n2_ := Ax.mk (Kd.N_drew HO_346001.out)
                       have n3_ := Ax.mk (Kd.N_drew HO370.out)
                       have n4_ := Ax.mk (blk_drew BK345.out)
                       have n5_ := Ax.mk (blk_drew BK373.out)
                       have n6_ := Ax.mk (below_drew1 HB.out)
                       clear HO_13
                       clear HO_14
                       clear HO_346001
                       clear HO370
                       clear BK345
                       clear BK373
                       clear HB
                       have HO_13 := n0_
                       have HO_14 := n1_
                       have HO_346001 := n2_
                       have HO370 := n3_
                       have BK345 := n4_
                       have BK373 := n5_
                       have HB := n6_
                       clear n0_ n1_ n2_ n3_ n4_ n5_ n6_
                       obtain ⟨Ao86, co86, eo86⟩ := Kd.R_slice HO_13.out
                       (first | subst eo86 | (injection eo86 with f1_ f2_ f3_; have f4_ := f1_.symm; have f5_ := f3_.symm; clear f1_ f2_ f3_; subst f4_; subst f5_))
                       have p374 : 0 ≤ ((ji77) : Int) := ofD
                       have q374 : (ji77) < (x13_2.length : Int) := ofD
                       obtain ⟨ad374, e374, hx374_0⟩ := Kd.at_int (Kd.R_reads' HO_13.out).2.2 (ji77) p374 q374
                       cases e374
                       replace p374 := eq_true p374
                       replace q374 := eq_true q374
                       obtain ⟨Ao87, co87, eo87⟩ := Kd.N_slice HO_14.out
                       (first | subst eo87 | (injection eo87 with f1_ f2_ f3_; have f4_ := f1_.symm; have f5_ := f3_.symm; clear f1_ f2_ f3_; subst f4_; subst f5_))
                       have p375 : 0 ≤ ((ji77) : Int) := ofD
                       have q375 : (ji77) < (x14_2.length : Int) := ofD
                       obtain ⟨ad375, A375_1, c375_1, e375, hx375_0, hx375_1, hx375_2, hl375_1, hi375_1⟩ := at_T66 (Kd.N_reads' HO_14.out).2.2 (ji77) p375 q375
                       cases e375
                       obtain ⟨ce375, hce375, hMe375, hcc375⟩ := Kd.N_get HO_14.out z66 (ji77) p375 (by first | exact q375 | exact ofD | (have e_ := (Kd.N_reads' HO_14.out).1; omega))
                       obtain ⟨ua375_1, uc375_1, rfl, ul375_1, ge375_1⟩ := k66_openF hMe375
                       have hv375_1 := hcc375 1 _ rfl
                       rw [add_field _ _ 1 (by omega)] at hv375_1
                       replace hv375_1 := Option.some.inj (hv375_1.symm.trans hx375_1)
                       injection hv375_1 with hva_ hvn_ hvc_
                       rw [hva_] at ge375_1
                       rw [hvc_] at ul375_1
                       have HL375_1 := Ax.mk (show Kd.V k44 44 _ w.heap.size _ _ ((rd_T66 x14_2 (ji77)).f1) from Kd.V_mk ul375_1 ge375_1)
                       clear hva_ hvn_ hvc_ ge375_1 ul375_1
                       clear hcc375 hce375
                       have HR375_1 := Ax.mk hi375_1
                       have HC375_1 := Ax.mk hl375_1
                       clear hi375_1 hl375_1
                       replace p375 := eq_true p375
                       replace q375 := eq_true q375
                       have p376 : 0 ≤ ((ji77) : Int) := ofD
                       have q376 : (ji77) < (x14_2.length : Int) := ofD
                       obtain ⟨ad376, A376_1, c376_1, e376, hx376_0, hx376_1, hx376_2, hl376_1, hi376_1⟩ := at_T66 (Kd.N_reads' HO_14.out).2.2 (ji77) p376 q376
                       obtain rfl : ad375 = ad376 := (by injection e376)
                       obtain ⟨ce376, hce376, hMe376, hcc376⟩ := Kd.N_get HO_14.out z66 (ji77) p376 (by first | exact q376 | exact ofD | (have e_ := (Kd.N_reads' HO_14.out).1; omega))
                       obtain ⟨ua376_1, uc376_1, rfl, ul376_1, ge376_1⟩ := k66_openF hMe376
                       have hv376_1 := hcc376 1 _ rfl
                       rw [add_field _ _ 1 (by omega)] at hv376_1
                       replace hv376_1 := Option.some.inj (hv376_1.symm.trans hx376_1)
                       injection hv376_1 with hva_ hvn_ hvc_
                       rw [hva_] at ge376_1
                       rw [hvc_] at ul376_1
                       have HL376_1 := Ax.mk (show Kd.V k44 44 _ w.heap.size _ _ ((rd_T66 x14_2 (ji77)).f1) from Kd.V_mk ul376_1 ge376_1)
                       clear hva_ hvn_ hvc_ ge376_1 ul376_1
                       clear hcc376 hce376
                       have HR376_1 := Ax.mk hi376_1
                       have HC376_1 := Ax.mk hl376_1
                       clear hi376_1 hl376_1
                       replace p376 := eq_true p376
                       replace q376 := eq_true q376
                       have ea_ := Option.some.inj (hx375_1.symm.trans hx376_1)
                       injection ea_ with ea_ en_ ec_
                       subst ea_
                       subst ec_
                       clear en_
                       as_aux_lemma =>
                       refine start_ (n := 59) (S := fun w' => w'.cell? ⟨gb373, 0, none⟩ = some (.int .u64 t367) ∧ w'.cell? ⟨gb373, 1, none⟩ = some (.slice Ao71 t368.length co71) ∧ w'.cell? ⟨gb373, 2, none⟩ = some (.string t371) ∧ w'.cell? (ad374.add ((ji77)).toNat) = some (.int .i64 (rd x13_2 (ji77))) ∧ w'.cell? (ad375.add (((ji77)).toNat * 3)) = some (.int .u64 ((rd_T66 x14_2 (ji77)).f0)) ∧ w'.cell? ⟨(ad375.add (((ji77)).toNat * 3)).block, (ad375.add (((ji77)).toNat * 3)).off + 1, none⟩ = some (.slice A375_1 ((rd_T66 x14_2 (ji77)).f1).length c375_1) ∧ w'.cell? ⟨(ad375.add (((ji77)).toNat * 3)).block, (ad375.add (((ji77)).toNat * 3)).off + 2, none⟩ = some (.string ((rd_T66 x14_2 (ji77)).f2)) ∧ w'.cell? (ad375.add (((ji77)).toNat * 3)) = some (.int .u64 ((rd_T66 x14_2 (ji77)).f0)) ∧ w'.cell? ⟨(ad375.add (((ji77)).toNat * 3)).block, (ad375.add (((ji77)).toNat * 3)).off + 1, none⟩ = some (.slice A375_1 ((rd_T66 x14_2 (ji77)).f1).length c375_1) ∧ w'.cell? ⟨(ad375.add (((ji77)).toNat * 3)).block, (ad375.add (((ji77)).toNat * 3)).off + 2, none⟩ = some (.string ((rd_T66 x14_2 (ji77)).f2))) (ds := []) (TF 0 59) (by kernel_rfl) rfl rfl ⟨(bC BK373.out 0).trans rfl, (bC BK373.out 1).trans rfl, (bC BK373.out 2).trans rfl, hx374_0, hx375_0, hx375_1, hx375_2, hx376_0, hx376_1, hx376_2⟩ (fun hHeld => ?_); refine with_tabW l13_JournalTorn.tab21 l13_JournalTorn.bits21 (fun HT_ HW_ => ?_)
                       generalize w84.drew = w85 at HO_13 HO_14 HO_346001 HO370 BK345 BK373 HB HL375_1 HL376_1 HR375_1 HR376_1 hx374_0 hx375_0 hx375_1 hx375_2 hx376_0 hx376_1 hx376_2 hHeld ⊢
                       refine pure_ (i := 0) (N := some 105) (v := ?_) (a' := ?_) (TF 1 58) rfl rfl (any_of HT_.out (by kernel_rfl)) (fun _ _ _ h => h) (Or.inl ⟨by rfl, ?_⟩) ?_ ?_
                       rotate_left; · intro w'; go_simp; with_reducible rfl
                       rotate_left; · simp only [Act.put, sI, sZ, sS, i64_w, i32_w]; rfl
                       refine pure_ (i := 1) (N := some 106) (v := ?_) (a' := ?_) (TF 2 57) rfl rfl (any_of HT_.out (by kernel_rfl)) (fun _ _ _ h => h) (Or.inl ⟨by rfl, ?_⟩) ?_ ?_
                       rotate_left; · intro w'; go_simp; with_reducible rfl
                       rotate_left; · simp only [Act.put, sI, sZ, sS, i64_w, i32_w]; rfl
                       refine pure_ (i := 2) (N := some 107) (v := ?_) (a' := ?_) (TF 3 56) rfl rfl (any_of HT_.out (by kernel_rfl)) (fun _ _ _ h => h) (Or.inl ⟨by rfl, ?_⟩) ?_ ?_
                       rotate_left; · intro w'; go_simp; with_reducible rfl
                       rotate_left; · simp only [Act.put, sI, sZ, sS, i64_w, i32_w]; rfl
                       refine pure_ (i := 3) (N := some 108) (v := ?_) (a' := ?_) (TF 4 55) rfl rfl (any_of HT_.out (by kernel_rfl)) (fun _ _ _ h => h) (Or.inl ⟨by rfl, ?_⟩) ?_ ?_
                       rotate_left; · intro w'; go_simp; with_reducible rfl
                       rotate_left; · simp only [Act.put, sI, sZ, sS, i64_w, i32_w]; rfl
                       refine pure_ (i := 4) (N := some 109) (v := ?_) (a' := ?_) (TF 5 54) rfl rfl (any_of HT_.out (by kernel_rfl)) (fun _ _ _ h => h) (Or.inl ⟨by rfl, ?_⟩) ?_ ?_
                       rotate_left; · intro w'; go_simp; with_reducible rfl
                       rotate_left; · simp only [Act.put, sI, sZ, sS, i64_w, i32_w]; rfl
                       refine pure_ (i := 5) (N := some 110) (v := ?_) (a' := ?_) (TF 6 53) rfl rfl (any_of HT_.out (by kernel_rfl)) (fun _ _ _ h => h) (Or.inl ⟨by rfl, ?_⟩) ?_ ?_
                       rotate_left; · intro w'; go_simp; with_reducible rfl
                       rotate_left; · simp only [Act.put, sI, sZ, sS, i64_w, i32_w]; rfl
                       refine pure_ (i := 6) (N := some 111) (v := ?_) (a' := ?_) (TF 7 52) rfl rfl (any_of HT_.out (by kernel_rfl)) (fun _ _ _ h => h) (Or.inl ⟨by rfl, ?_⟩) ?_ ?_
                       rotate_left; · intro w'; go_simp; with_reducible rfl
                       rotate_left; · simp only [Act.put, sI, sZ, sS, i64_w, i32_w]; rfl
                       refine take_ (i := 7) (N := some 112) (v := ?_) (a' := ?_) (TF 8 51) rfl rfl (take_ofW HT_.out HW_.out (by kernel_rfl)) (fun _ _ _ h => h) (Or.inl ⟨by rfl, ?_⟩) hHeld ?_ ?_
                       rotate_left
                       ·rintro w' ⟨s0, s1, s2, s3, s4, s5, s6, s7, s8, s9⟩
                        go_simp
                        with_reducible rfl
                       rotate_left
                       ·simp only [Act.put, sI, sZ, sS, i64_w, i32_w]
                        rfl
                       refine pure_ (i := 8) (N := some 113) (v := ?_) (a' := ?_) (TF 9 50) rfl rfl (any_of HT_.out (by kernel_rfl)) (fun _ _ _ h => h) (Or.inl ⟨by rfl, ?_⟩) ?_ ?_
                       rotate_left; · intro w'; go_simp; with_reducible rfl
                       rotate_left; · simp only [Act.put, sI, sZ, sS, i64_w, i32_w]; rfl
                       refine pure_ (i := 9) (N := some 114) (v := ?_) (a' := ?_) (TF 10 49) rfl rfl (any_of HT_.out (by kernel_rfl)) (fun _ _ _ h => h) (Or.inl ⟨by rfl, ?_⟩) ?_ ?_
                       rotate_left; · intro w'; go_simp; with_reducible rfl
                       rotate_left; · simp only [Act.put, sI, sZ, sS, i64_w, i32_w]; rfl
                       refine pure_ (i := 10) (N := some 115) (v := ?_) (a' := ?_) (TF 11 48) rfl rfl (any_of HT_.out (by kernel_rfl)) (fun _ _ _ h => h) (Or.inl ⟨by rfl, ?_⟩) ?_ ?_
                       rotate_left; · intro w'; go_simp; with_reducible rfl
                       rotate_left; · simp only [Act.put, sI, sZ, sS, i64_w, i32_w]; rfl
                       refine pure_ (i := 11) (N := some 116) (v := ?_) (a' := ?_) (TF 12 47) rfl rfl (any_of HT_.out (by kernel_rfl)) (fun _ _ _ h => h) (Or.inl ⟨by rfl, ?_⟩) ?_ ?_
                       rotate_left; · intro w'; go_simp; with_reducible rfl
                       rotate_left; · simp only [Act.put, sI, sZ, sS, i64_w, i32_w]; rfl
                       refine pure_ (i := 12) (N := some 117) (v := ?_) (a' := ?_) (TF 13 46) rfl rfl (any_of HT_.out (by kernel_rfl)) (fun _ _ _ h => h) (Or.inl ⟨by rfl, ?_⟩) ?_ ?_
                       rotate_left; · intro w'; go_simp; with_reducible rfl
                       rotate_left; · simp only [Act.put, sI, sZ, sS, i64_w, i32_w]; rfl
                       refine take_ (i := 13) (N := some 118) (v := ?_) (a' := ?_) (TF 14 45) rfl rfl (take_ofW HT_.out HW_.out (by kernel_rfl)) (fun _ _ _ h => h) (Or.inl ⟨by rfl, ?_⟩) hHeld ?_ ?_
                       rotate_left
                       ·rintro w' ⟨s0, s1, s2, s3, s4, s5, s6, s7, s8, s9⟩
                        go_simp
                        with_reducible rfl
                       rotate_left
                       ·simp only [Act.put, sI, sZ, sS, i64_w, i32_w]
                        rfl
                       refine pure_ (i := 14) (N := some 119) (v := ?_) (a' := ?_) (TF 15 44) rfl rfl (any_of HT_.out (by kernel_rfl)) (fun _ _ _ h => h) (Or.inl ⟨by rfl, ?_⟩) ?_ ?_
                       rotate_left; · intro w'; go_simp; with_reducible rfl
                       rotate_left; · simp only [Act.put, sI, sZ, sS, i64_w, i32_w]; rfl
                       refine pure_ (i := 15) (N := some 120) (v := ?_) (a' := ?_) (TF 16 43) rfl rfl (any_of HT_.out (by kernel_rfl)) (fun _ _ _ h => h) (Or.inl ⟨by rfl, ?_⟩) ?_ ?_
                       rotate_left; · intro w'; go_simp; with_reducible rfl
                       rotate_left; · simp only [Act.put, sI, sZ, sS, i64_w, i32_w]; rfl
                       refine pure_ (i := 16) (N := some 121) (v := ?_) (a' := ?_) (TF 17 42) rfl rfl (any_of HT_.out (by kernel_rfl)) (fun _ _ _ h => h) (Or.inl ⟨by rfl, ?_⟩) ?_ ?_
                       rotate_left; · intro w'; go_simp; with_reducible rfl
                       rotate_left; · simp only [Act.put, sI, sZ, sS, i64_w, i32_w]; rfl
                       refine pure_ (i := 17) (N := some 122) (v := ?_) (a' := ?_) (TF 18 41) rfl rfl (any_of HT_.out (by kernel_rfl)) (fun _ _ _ h => h) (Or.inl ⟨by rfl, ?_⟩) ?_ ?_
                       rotate_left; · intro w'; go_simp; with_reducible rfl
                       rotate_left; · simp only [Act.put, sI, sZ, sS, i64_w, i32_w]; rfl
                       refine pure_ (i := 18) (N := some 123) (v := ?_) (a' := ?_) (TF 19 40) rfl rfl (any_of HT_.out (by kernel_rfl)) (fun _ _ _ h => h) (Or.inl ⟨by rfl, ?_⟩) ?_ ?_
                       rotate_left; · intro w'; go_simp; with_reducible rfl
                       rotate_left; · simp only [Act.put, sI, sZ, sS, i64_w, i32_w]; rfl
                       refine pure_ (i := 19) (N := some 124) (v := ?_) (a' := ?_) (TF 20 39) rfl rfl (any_of HT_.out (by kernel_rfl)) (fun _ _ _ h => h) (Or.inl ⟨by rfl, ?_⟩) ?_ ?_
                       rotate_left; · intro w'; go_simp; with_reducible rfl
                       rotate_left; · simp only [Act.put, sI, sZ, sS, i64_w, i32_w]; rfl
                       refine pure_ (i := 20) (N := some 125) (v := ?_) (a' := ?_) (TF 21 38) rfl rfl (any_of HT_.out (by kernel_rfl)) (fun _ _ _ h => h) (Or.inl ⟨by rfl, ?_⟩) ?_ ?_
                       rotate_left; · intro w'; go_simp; with_reducible rfl
                       rotate_left; · simp only [Act.put, sI, sZ, sS, i64_w, i32_w]; rfl
                       refine pure_ (i := 21) (N := some 126) (v := ?_) (a' := ?_) (TF 22 37) rfl rfl (any_of HT_.out (by kernel_rfl)) (fun _ _ _ h => h) (Or.inl ⟨by rfl, ?_⟩) ?_ ?_
                       rotate_left; · intro w'; go_simp; with_reducible rfl
                       rotate_left; · simp only [Act.put, sI, sZ, sS, i64_w, i32_w]; rfl
                       refine pure_ (i := 22) (N := some 127) (v := ?_) (a' := ?_) (TF 23 36) rfl rfl (any_of HT_.out (by kernel_rfl)) (fun _ _ _ h => h) (Or.inl ⟨by rfl, ?_⟩) ?_ ?_
                       rotate_left; · intro w'; go_simp; with_reducible rfl
                       rotate_left; · simp only [Act.put, sI, sZ, sS, i64_w, i32_w]; rfl
                       refine pure_ (i := 23) (N := some 128) (v := ?_) (a' := ?_) (TF 24 35) rfl rfl (any_of HT_.out (by kernel_rfl)) (fun _ _ _ h => h) (Or.inl ⟨by rfl, ?_⟩) ?_ ?_
                       rotate_left; · intro w'; go_simp; with_reducible rfl
                       rotate_left; · simp only [Act.put, sI, sZ, sS, i64_w, i32_w]; rfl
                       refine pure_ (i := 24) (N := some 129) (v := ?_) (a' := ?_) (TF 25 34) rfl rfl (any_of HT_.out (by kernel_rfl)) (fun _ _ _ h => h) (Or.inl ⟨by rfl, ?_⟩) ?_ ?_
                       rotate_left; · intro w'; go_simp; with_reducible rfl
                       rotate_left; · simp only [Act.put, sI, sZ, sS, i64_w, i32_w]; rfl
                       refine pure_ (i := 25) (N := some 130) (v := ?_) (a' := ?_) (TF 26 33) rfl rfl (any_of HT_.out (by kernel_rfl)) (fun _ _ _ h => h) (Or.inl ⟨by rfl, ?_⟩) ?_ ?_
                       rotate_left; · intro w'; go_simp; with_reducible rfl
                       rotate_left; · simp only [Act.put, sI, sZ, sS, i64_w, i32_w]; rfl
                       refine take_ (i := 26) (N := some 131) (v := ?_) (a' := ?_) (TF 27 32) rfl rfl (take_ofW HT_.out HW_.out (by kernel_rfl)) (fun _ _ _ h => h) (Or.inl ⟨by rfl, ?_⟩) hHeld ?_ ?_
                       rotate_left
                       ·rintro w' ⟨s0, s1, s2, s3, s4, s5, s6, s7, s8, s9⟩
                        go_simp
                        with_reducible rfl
                       rotate_left
                       ·simp only [Act.put, sI, sZ, sS, i64_w, i32_w]
                        rfl
                       refine pure_ (i := 27) (N := some 132) (v := ?_) (a' := ?_) (TF 28 31) rfl rfl (any_of HT_.out (by kernel_rfl)) (fun _ _ _ h => h) (Or.inl ⟨by rfl, ?_⟩) ?_ ?_
                       rotate_left; · intro w'; go_simp; with_reducible rfl
                       rotate_left; · simp only [Act.put, sI, sZ, sS, i64_w, i32_w]; rfl
                       refine pure_ (i := 28) (N := some 133) (v := ?_) (a' := ?_) (TF 29 30) rfl rfl (any_of HT_.out (by kernel_rfl)) (fun _ _ _ h => h) (Or.inl ⟨by rfl, ?_⟩) ?_ ?_
                       rotate_left; · intro w'; go_simp; with_reducible rfl
                       rotate_left; · simp only [Act.put, sI, sZ, sS, i64_w, i32_w]; rfl
                       refine pure_ (i := 29) (N := some 134) (v := ?_) (a' := ?_) (TF 30 29) rfl rfl (any_of HT_.out (by kernel_rfl)) (fun _ _ _ h => h) (Or.inl ⟨by rfl, ?_⟩) ?_ ?_
                       rotate_left; · intro w'; go_simp; with_reducible rfl
                       rotate_left; · simp only [Act.put, sI, sZ, sS, i64_w, i32_w]; rfl
                       refine pure_ (i := 31) (N := some 136) (v := ?_) (a' := ?_) (BT 59 3221225471) rfl rfl (any_of HT_.out (by kernel_rfl)) (fun _ _ _ h => h) (Or.inl ⟨by rfl, ?_⟩) ?_ ?_
                       rotate_left; · intro w'; go_simp; with_reducible rfl
                       rotate_left; · simp only [Act.put, sI, sZ, sS, i64_w, i32_w]; rfl
                       refine pure_ (i := 32) (N := some 137) (v := ?_) (a' := ?_) (BT 59 7516192767) rfl rfl (any_of HT_.out (by kernel_rfl)) (fun _ _ _ h => h) (Or.inl ⟨by rfl, ?_⟩) ?_ ?_
                       rotate_left; · intro w'; go_simp; with_reducible rfl
                       rotate_left; · simp only [Act.put, sI, sZ, sS, i64_w, i32_w]; rfl
                       refine pure_ (i := 33) (N := some 138) (v := ?_) (a' := ?_) (BT 59 16106127359) rfl rfl (any_of HT_.out (by kernel_rfl)) (fun _ _ _ h => h) (Or.inl ⟨by rfl, ?_⟩) ?_ ?_
                       rotate_left; · intro w'; go_simp; with_reducible rfl
                       rotate_left; · simp only [Act.put, sI, sZ, sS, i64_w, i32_w]; rfl
                       refine pure_ (i := 34) (N := some 139) (v := ?_) (a' := ?_) (BT 59 33285996543) rfl rfl (any_of HT_.out (by kernel_rfl)) (fun _ _ _ h => h) (Or.inl ⟨by rfl, ?_⟩) ?_ ?_
                       rotate_left; · intro w'; go_simp; with_reducible rfl
                       rotate_left; · simp only [Act.put, sI, sZ, sS, i64_w, i32_w]; rfl
                       refine pure_ (i := 35) (N := some 140) (v := ?_) (a' := ?_) (BT 59 67645734911) rfl rfl (any_of HT_.out (by kernel_rfl)) (fun _ _ _ h => h) (Or.inl ⟨by rfl, ?_⟩) ?_ ?_
                       rotate_left; · intro w'; go_simp; with_reducible rfl
                       rotate_left; · simp only [Act.put, sI, sZ, sS, i64_w, i32_w]; rfl
                       refine take_ (i := 30) (N := some 135) (v := ?_) (a' := ?_) (TF 36 23) rfl rfl (take_ofW HT_.out HW_.out (by kernel_rfl)) (fun _ _ _ h => h) (Or.inl ⟨by rfl, ?_⟩) hHeld ?_ ?_
                       rotate_left
                       ·rintro w' ⟨s0, s1, s2, s3, s4, s5, s6, s7, s8, s9⟩
                        go_simp
                        with_reducible rfl
                       rotate_left
                       ·simp only [Act.put, sI, sZ, sS, i64_w, i32_w]
                        rfl
                       refine take_ (i := 36) (N := some 141) (v := ?_) (a' := ?_) (TF 37 22) rfl rfl (take_ofW HT_.out HW_.out (by kernel_rfl)) (fun _ _ _ h => h) (Or.inl ⟨by rfl, ?_⟩) hHeld ?_ ?_
                       rotate_left
                       ·rintro w' ⟨s0, s1, s2, s3, s4, s5, s6, s7, s8, s9⟩
                        go_simp
                        with_reducible rfl
                       rotate_left
                       ·simp only [Act.put, sI, sZ, sS, i64_w, i32_w]
                        rfl
                       refine pure_ (i := 37) (N := some 142) (v := ?_) (a' := ?_) (TF 38 21) rfl rfl (any_of HT_.out (by kernel_rfl)) (fun _ _ _ h => h) (Or.inl ⟨by rfl, ?_⟩) ?_ ?_
                       rotate_left; · intro w'; go_simp; with_reducible rfl
                       rotate_left; · simp only [Act.put, sI, sZ, sS, i64_w, i32_w]; rfl
                       refine pure_ (i := 38) (N := some 143) (v := ?_) (a' := ?_) (TF 39 20) rfl rfl (any_of HT_.out (by kernel_rfl)) (fun _ _ _ h => h) (Or.inl ⟨by rfl, ?_⟩) ?_ ?_
                       rotate_left; · intro w'; go_simp; with_reducible rfl
                       rotate_left; · simp only [Act.put, sI, sZ, sS, i64_w, i32_w]; rfl
                       refine pure_ (i := 39) (N := some 144) (v := ?_) (a' := ?_) (TF 40 19) rfl rfl (any_of HT_.out (by kernel_rfl)) (fun _ _ _ h => h) (Or.inl ⟨by rfl, ?_⟩) ?_ ?_
                       rotate_left; · intro w'; go_simp; with_reducible rfl
                       rotate_left; · simp only [Act.put, sI, sZ, sS, i64_w, i32_w]; rfl
                       refine pure_ (i := 40) (N := some 145) (v := ?_) (a' := ?_) (TF 41 18) rfl rfl (any_of HT_.out (by kernel_rfl)) (fun _ _ _ h => h) (Or.inl ⟨by rfl, ?_⟩) ?_ ?_
                       rotate_left; · intro w'; go_simp; with_reducible rfl
                       rotate_left; · simp only [Act.put, sI, sZ, sS, i64_w, i32_w]; rfl
                       refine pure_ (i := 42) (N := some 147) (v := ?_) (a' := ?_) (BT 59 6597069766655) rfl rfl (any_of HT_.out (by kernel_rfl)) (fun _ _ _ h => h) (Or.inl ⟨by rfl, ?_⟩) ?_ ?_
                       rotate_left; · intro w'; go_simp; with_reducible rfl
                       rotate_left; · simp only [Act.put, sI, sZ, sS, i64_w, i32_w]; rfl
                       refine pure_ (i := 43) (N := some 148) (v := ?_) (a' := ?_) (BT 59 15393162788863) rfl rfl (any_of HT_.out (by kernel_rfl)) (fun _ _ _ h => h) (Or.inl ⟨by rfl, ?_⟩) ?_ ?_
                       rotate_left; · intro w'; go_simp; with_reducible rfl
                       rotate_left; · simp only [Act.put, sI, sZ, sS, i64_w, i32_w]; rfl
                       refine pure_ (i := 44) (N := some 149) (v := ?_) (a' := ?_) (BT 59 32985348833279) rfl rfl (any_of HT_.out (by kernel_rfl)) (fun _ _ _ h => h) (Or.inl ⟨by rfl, ?_⟩) ?_ ?_
                       rotate_left; · intro w'; go_simp; with_reducible rfl
                       rotate_left; · simp only [Act.put, sI, sZ, sS, i64_w, i32_w]; rfl
                       refine pure_ (i := 45) (N := some 150) (v := ?_) (a' := ?_) (BT 59 68169720922111) rfl rfl (any_of HT_.out (by kernel_rfl)) (fun _ _ _ h => h) (Or.inl ⟨by rfl, ?_⟩) ?_ ?_
                       rotate_left; · intro w'; go_simp; with_reducible rfl
                       rotate_left; · simp only [Act.put, sI, sZ, sS, i64_w, i32_w]; rfl
                       refine pure_ (i := 46) (N := some 151) (v := ?_) (a' := ?_) (BT 59 138538465099775) rfl rfl (any_of HT_.out (by kernel_rfl)) (fun _ _ _ h => h) (Or.inl ⟨by rfl, ?_⟩) ?_ ?_
                       rotate_left; · intro w'; go_simp; with_reducible rfl
                       rotate_left; · simp only [Act.put, sI, sZ, sS, i64_w, i32_w]; rfl
                       refine take_ (i := 41) (N := some 146) (v := ?_) (a' := ?_) (TF 47 12) rfl rfl (take_ofW HT_.out HW_.out (by kernel_rfl)) (fun _ _ _ h => h) (Or.inl ⟨by rfl, ?_⟩) hHeld ?_ ?_
                       rotate_left
                       ·rintro w' ⟨s0, s1, s2, s3, s4, s5, s6, s7, s8, s9⟩
                        go_simp
                        with_reducible rfl
                       rotate_left
                       ·simp only [Act.put, sI, sZ, sS, i64_w, i32_w]
                        rfl
                       refine take_ (i := 47) (N := some 152) (v := ?_) (a' := ?_) (TF 48 11) rfl rfl (take_ofW HT_.out HW_.out (by kernel_rfl)) (fun _ _ _ h => h) (Or.inl ⟨by rfl, ?_⟩) hHeld ?_ ?_
                       rotate_left
                       ·rintro w' ⟨s0, s1, s2, s3, s4, s5, s6, s7, s8, s9⟩
                        go_simp
                        with_reducible rfl
                       rotate_left
                       ·simp only [Act.put, sI, sZ, sS, i64_w, i32_w]
                        rfl
                       refine pure_ (i := 48) (N := some 153) (v := ?_) (a' := ?_) (TF 49 10) rfl rfl (any_of HT_.out (by kernel_rfl)) (fun _ _ _ h => h) (Or.inl ⟨by rfl, ?_⟩) ?_ ?_
                       rotate_left; · intro w'; go_simp; with_reducible rfl
                       rotate_left; · simp only [Act.put, sI, sZ, sS, i64_w, i32_w]; rfl
                       refine pure_ (i := 49) (N := some 154) (v := ?_) (a' := ?_) (TF 50 9) rfl rfl (any_of HT_.out (by kernel_rfl)) (fun _ _ _ h => h) (Or.inl ⟨by rfl, ?_⟩) ?_ ?_
                       rotate_left; · intro w'; go_simp; with_reducible rfl
                       rotate_left; · simp only [Act.put, sI, sZ, sS, i64_w, i32_w]; rfl
                       refine pure_ (i := 50) (N := some 155) (v := ?_) (a' := ?_) (TF 51 8) rfl rfl (any_of HT_.out (by kernel_rfl)) (fun _ _ _ h => h) (Or.inl ⟨by rfl, ?_⟩) ?_ ?_
                       rotate_left; · intro w'; go_simp; with_reducible rfl
                       rotate_left; · simp only [Act.put, sI, sZ, sS, i64_w, i32_w]; rfl
                       refine pure_ (i := 51) (N := some 156) (v := ?_) (a' := ?_) (TF 52 7) rfl rfl (any_of HT_.out (by kernel_rfl)) (fun _ _ _ h => h) (Or.inl ⟨by rfl, ?_⟩) ?_ ?_
                       rotate_left; · intro w'; go_simp; with_reducible rfl
                       rotate_left; · simp only [Act.put, sI, sZ, sS, i64_w, i32_w]; rfl
                       refine pure_ (i := 54) (N := some 159) (v := ?_) (a' := ?_) (BT 59 22517998136852479) rfl rfl (any_of HT_.out (by kernel_rfl)) (fun _ _ _ h => h) (Or.inl ⟨by rfl, ?_⟩) ?_ ?_
                       rotate_left; · intro w'; go_simp; with_reducible rfl
                       rotate_left; · simp only [Act.put, sI, sZ, sS, i64_w, i32_w]; rfl
                       refine take_ (i := 52) (N := some 157) (v := ?_) (a' := ?_) (BT 59 27021597764222975) rfl rfl (take_ofW HT_.out HW_.out (by kernel_rfl)) (fun _ _ _ h => h) (Or.inl ⟨by rfl, ?_⟩) hHeld ?_ ?_
                       rotate_left
                       ·rintro w' ⟨s0, s1, s2, s3, s4, s5, s6, s7, s8, s9⟩
                        go_simp
                        with_reducible rfl
                       rotate_left
                       ·simp only [Act.put, sI, sZ, sS, i64_w, i32_w]
                        rfl
                       refine pure_ (i := 53) (N := some 158) (v := ?_) (a' := ?_) (TF 55 4) rfl rfl (any_of HT_.out (by kernel_rfl)) (fun _ _ _ h => h) (Or.inl ⟨by rfl, ?_⟩) ?_ ?_
                       rotate_left; · intro w'; go_simp; with_reducible rfl
                       rotate_left; · simp only [Act.put, sI, sZ, sS, i64_w, i32_w]; rfl
                       refine pure_ (i := 55) (N := some 160) (v := ?_) (a' := ?_) (TF 56 3) rfl rfl (any_of HT_.out (by kernel_rfl)) (fun _ _ _ h => h) (Or.inl ⟨by rfl, ?_⟩) ?_ ?_
                       rotate_left; · intro w'; go_simp; with_reducible rfl
                       rotate_left; · simp only [Act.put, sI, sZ, sS, i64_w, i32_w]; rfl
                       refine pure_ (i := 56) (N := some 161) (v := ?_) (a' := ?_) (TF 57 2) rfl rfl (any_of HT_.out (by kernel_rfl)) (fun _ _ _ h => h) (Or.inl ⟨by rfl, ?_⟩) ?_ ?_
                       rotate_left; · intro w'; go_simp; with_reducible rfl
                       rotate_left; · simp only [Act.put, sI, sZ, sS, i64_w, i32_w]; rfl
                       refine pure_ (i := 57) (N := some 162) (v := ?_) (a' := ?_) (TF 58 1) rfl rfl (any_of HT_.out (by kernel_rfl)) (fun _ _ _ h => h) (Or.inl ⟨by rfl, ?_⟩) ?_ ?_
                       rotate_left; · intro w'; go_simp; with_reducible rfl
                       rotate_left; · simp only [Act.put, sI, sZ, sS, i64_w, i32_w]; rfl
                       refine pure_ (i := 58) (N := some 163) (v := ?_) (a' := ?_) (TF 59 0) rfl rfl (any_of HT_.out (by kernel_rfl)) (fun _ _ _ h => h) (Or.inl ⟨by rfl, ?_⟩) ?_ ?_
                       rotate_left; · intro w'; go_simp; with_reducible rfl
                       rotate_left; · simp only [Act.put, sI, sZ, sS, i64_w, i32_w]; rfl
                       refine done_ (done_of HT_.out (by kernel_rfl)) ?_
                       try go_wp2
                       go_meet
                       case rel => exact ⟨_, (((t368.length : Int) != x18_53)), (by first | rfl | (simp; done) | (simp [*]; done)), H', ⟨by have := HJ6.out; have := HK2.out; have := HJ53.out; first | omega | exact Nat.le_refl _⟩, ⟨by apply Kd.N_to; exact Kd.N_mono HO_346001.out (fun _ hk => ⟨hk.2.2.1, ⟨hk.2.2.2.1, hk.2.2.2.2⟩⟩)⟩, ⟨by apply Kd.N_to; exact Kd.N_mono HO370.out (fun _ hk => ⟨hk.2.2.1, ⟨hk.2.2.2.1, hk.2.2.2.2⟩⟩)⟩, ⟨by refine bT ?_; exact BK345.out⟩, ⟨by refine bT ?_; exact BK373.out⟩, ⟨bA⟩⟩
                      ·rw [if_neg c83] at H
                       have c83b0 : (t367 == ((rd_T66 x14_2 (ji77)).f0)) = false := beq_eq_false_iff_ne.mpr c83
                       have c83b1 : (t367 != ((rd_T66 x14_2 (ji77)).f0)) = true := bne_iff_ne.mpr c83
                       exact absurd H (by simp)
                     ·rw [if_neg c82] at H
                      have c82b0 : (t371.toList == ((rd_T66 x14_2 (ji77)).f2).toList) = false := beq_eq_false_iff_ne.mpr c82
                      have c82b1 : (t371.toList != ((rd_T66 x14_2 (ji77)).f2).toList) = true := bne_iff_ne.mpr c82
                      exact absurd H (by simp)
                    ·rw [if_neg c81] at H
                     exact absurd H (by simp)
                   ·rw [if_neg c80] at H
                    have c80b0 : (t372 == (rd x13_2 (ji77))) = false := beq_eq_false_iff_ne.mpr c80
                    have c80b1 : (t372 != (rd x13_2 (ji77))) = true := bne_iff_ne.mpr c80
                    exact absurd H (by simp)
                  ·rw [if_neg c79] at H
                   exact absurd H (by simp)
                 ·rw [if_neg c78] at H
                  exact absurd H (by simp)
                ·rw [if_neg c76] at H
                 have c76b0 : decide (0 < x18_53) = false := decide_eq_false c76
                 clear c76
                 have H' := Ax.mk H
                 clear H
                 try go_wp2
                 have n0_ : Ax (Kd.R (Kd.int .i64) 3 (((w68.setCell ⟨gb373, 0, none⟩ (.int .u64 t367)).setCell ⟨gb373, 1, none⟩ (.slice Ao71 t368.length co71)).setCell ⟨gb373, 2, none⟩ (.string t371)) w.heap.size (fun _ => True) u13 x13_2) := ⟨by apply Kd.R_to; exact Kd.R_mono (Kd.R_far (p := ⟨gb373, 2, none⟩) (Kd.R_far (p := ⟨gb373, 1, none⟩) (Kd.R_far (p := ⟨gb373, 0, none⟩) (Kd.R_types HO_13.out BK373.out (by decide)) (fun _ hk => hk.2) (.int .u64 t367)) (fun _ hk => hk.2) (.slice Ao71 t368.length co71)) (fun _ hk => hk.2) (.string t371)) (fun _ hk => trivial)⟩
                 have n1_ : Ax (Kd.N k66 66 (((w68.setCell ⟨gb373, 0, none⟩ (.int .u64 t367)).setCell ⟨gb373, 1, none⟩ (.slice Ao71 t368.length co71)).setCell ⟨gb373, 2, none⟩ (.string t371)) w.heap.size (fun k_ => some k_ ≠ (u13 : Value).ownBlock ∧ some k_ ≠ (.slice Ao71 t368.length co71 : Value).ownBlock ∧ k_ ≠ gb345 ∧ k_ ≠ gb373) u14 x14_2) := ⟨by apply Kd.N_to; exact Kd.N_mono (Kd.N_far (p := ⟨gb373, 2, none⟩) (Kd.N_far (p := ⟨gb373, 1, none⟩) (Kd.N_far (p := ⟨gb373, 0, none⟩) (Kd.N_mono HO_14.out (fun k_ hk => (⟨hk, hk.2⟩ : _ ∧ k_ ≠ gb373))) (fun _ hk => hk.2) (.int .u64 t367)) (fun _ hk => hk.2) (.slice Ao71 t368.length co71)) (fun _ hk => hk.2) (.string t371)) (fun _ hk => ⟨hk.1.1.1.1, ⟨hk.1.1.2, ⟨hk.1.1.1.2, hk.1.2⟩⟩⟩)⟩
                 have n2_ : Ax (Kd.N k44 44 (((w68.setCell ⟨gb373, 0, none⟩ (.int .u64 t367)).setCell ⟨gb373, 1, none⟩ (.slice Ao71 t368.length co71)).setCell ⟨gb373, 2, none⟩ (.string t371)) w.heap.size (fun k_ => some k_ ≠ (u13 : Value).ownBlock ∧ some k_ ≠ (u14 : Value).ownBlock ∧ some k_ ≠ (.slice Ao71 t368.length co71 : Value).ownBlock ∧ k_ ≠ gb345 ∧ k_ ≠ gb373) u346001 x346001_2) := ⟨by apply Kd.N_to; exact Kd.N_mono (Kd.N_far (p := ⟨gb373, 2, none⟩) (Kd.N_far (p := ⟨gb373, 1, none⟩) (Kd.N_far (p := ⟨gb373, 0, none⟩) (Kd.N_mono HO_346001.out (fun k_ hk => (⟨hk, hk.2⟩ : _ ∧ k_ ≠ gb373))) (fun _ hk => hk.2) (.int .u64 t367)) (fun _ hk => hk.2) (.slice Ao71 t368.length co71)) (fun _ hk => hk.2) (.string t371)) (fun _ hk => ⟨hk.1.1.1.1, ⟨hk.1.1.1.2.1, ⟨hk.1.1.2, ⟨hk.1.1.1.2.2, hk.1.2⟩⟩⟩⟩)⟩
                 have n3_ : Ax (Kd.N k44 44 (((w68.setCell ⟨gb373, 0, none⟩ (.int .u64 t367)).setCell ⟨gb373, 1, none⟩ (.slice Ao71 t368.length co71)).setCell ⟨gb373, 2, none⟩ (.string t371)) w.heap.size (fun k_ => some k_ ≠ (u13 : Value).ownBlock ∧ some k_ ≠ (u14 : Value).ownBlock ∧ some k_ ≠ (u346001 : Value).ownBlock ∧ k_ ≠ gb345 ∧ k_ ≠ gb373) (.slice Ao71 t368.length co71) t368) := ⟨by apply Kd.N_to; exact Kd.N_mono (Kd.N_far (p := ⟨gb373, 2, none⟩) (Kd.N_far (p := ⟨gb373, 1, none⟩) (Kd.N_far (p := ⟨gb373, 0, none⟩) (Kd.N_mono HO370.out (fun k_ hk => (⟨hk, hk.2⟩ : _ ∧ k_ ≠ gb373))) (fun _ hk => hk.2) (.int .u64 t367)) (fun _ hk => hk.2) (.slice Ao71 t368.length co71)) (fun _ hk => hk.2) (.string t371)) (fun _ hk => ⟨hk.1.1.1, ⟨hk.1.1.2.1, ⟨hk.1.1.2.2.1, ⟨hk.1.1.2.2.2, hk.1.2⟩⟩⟩⟩)⟩
                 have n4_ : Ax ((((w68.setCell ⟨gb373, 0, none⟩ (.int .u64 t367)).setCell ⟨gb373, 1, none⟩ (.slice Ao71 t368.length co71)).setCell ⟨gb373, 2, none⟩ (.string t371)).heap[gb345]? = some (.cells #[.int .u64 x346000_2, u346001, .string x346002_2] 66 (0, 0))) := ⟨by refine bT ?_; refine bR ?_ NB345_373.out _; refine bT ?_; refine bR ?_ NB345_373.out _; refine bT ?_; refine bR ?_ NB345_373.out _; refine bT ?_; exact BK345.out⟩
                 have n5_ : Ax ((((w68.setCell ⟨gb373, 0, none⟩ (.int .u64 t367)).setCell ⟨gb373, 1, none⟩ (.slice Ao71 t368.length co71)).setCell ⟨gb373, 2, none⟩ (.string t371)).heap[gb373]? = some (.cells #[.int .u64 t367, .slice Ao71 t368.length co71, .string t371] 66 (0, 0))) := ⟨by refine bT ?_; refine bU (cs := #[.int .u64 t367, .slice Ao71 t368.length co71, .string (⟨#[]⟩ : ByteArray)]) ?_ 2 _ rfl; refine bT ?_; refine bU (cs := #[.int .u64 t367, .slice none 0 0, .string (⟨#[]⟩ : ByteArray)]) ?_ 1 _ rfl; refine bT ?_; refine bU (cs := #[.int .u64 0, .slice none 0 0, .string (⟨#[]⟩ : ByteArray)]) ?_ 0 _ rfl; refine bT ?_; exact BK373.out⟩
                 have n6_ : Ax (Below w.heap.size w (((w68.setCell ⟨gb373, 0, none⟩ (.int .u64 t367)).setCell ⟨gb373, 1, none⟩ (.slice Ao71 t368.length co71)).setCell ⟨gb373, 2, none⟩ (.string t371))) := ⟨bA⟩
                 (try clear HO_13)
                 (try clear HO_14)
                 (try clear HO_346001)
                 (try clear HO370)
                 (try clear BK345)
                 (try clear BK373)
                 (try clear HB)
                 generalize (((w68.setCell ⟨gb373, 0, none⟩ (.int .u64 t367)).setCell ⟨gb373, 1, none⟩ (.slice Ao71 t368.length co71)).setCell ⟨gb373, 2, none⟩ (.string t371)) = w88 at n0_ n1_ n2_ n3_ n4_ n5_ n6_ ⊢
                 have HO_13 := n0_
                 have HO_14 := n1_
                 have HO_346001 := n2_
                 have HO370 := n3_
                 have BK345 := n4_
                 have BK373 := n5_
                 have HB := n6_
                 clear n0_ n1_ n2_ n3_ n4_ n5_ n6_
                 have n0_ := Ax.mk (Kd.R_drew HO_13.out)
                 have n1_ := Ax.mk (Kd.N_drew HO_14.out)
                 have n2_ := Ax.mk (Kd.N_drew HO_346001.out)
                 have n3_ := Ax.mk (Kd.N_drew HO370.out)
                 have n4_ := Ax.mk (blk_drew BK345.out)
                 have n5_ := Ax.mk (blk_drew BK373.out)
                 have n6_ := Ax.mk (below_drew1 HB.out)
                 clear HO_13
                 clear HO_14
                 clear HO_346001
                 clear HO370
                 clear BK345
                 clear BK373
                 clear HB
                 have HO_13 := n0_
                 have HO_14 := n1_
                 have HO_346001 := n2_
                 have HO370 := n3_
                 have BK345 := n4_
                 have BK373 := n5_
                 have HB := n6_
                 clear n0_ n1_ n2_ n3_ n4_ n5_ n6_
                 as_aux_lemma =>
                 refine start_ (n := 59) (S := fun w' => w'.cell? ⟨gb373, 0, none⟩ = some (.int .u64 t367) ∧ w'.cell? ⟨gb373, 1, none⟩ = some (.slice Ao71 t368.length co71) ∧ w'.cell? ⟨gb373, 2, none⟩ = some (.string t371)) (ds := []) (TF 0 59) (by kernel_rfl) rfl rfl ⟨(bC BK373.out 0).trans rfl, (bC BK373.out 1).trans rfl, (bC BK373.out 2).trans rfl⟩ (fun hHeld => ?_); refine with_tabW l13_JournalTorn.tab21 l13_JournalTorn.bits21 (fun HT_ HW_ => ?_)
                 generalize w88.drew = w89 at HO_13 HO_14 HO_346001 HO370 BK345 BK373 HB hHeld ⊢
                 refine pure_ (i := 0) (N := some 105) (v := ?_) (a' := ?_) (TF 1 58) rfl rfl (any_of HT_.out (by kernel_rfl)) (fun _ _ _ h => h) (Or.inl ⟨by rfl, ?_⟩) ?_ ?_
                 rotate_left; · intro w'; go_simp; with_reducible rfl
                 rotate_left; · simp only [Act.put, sI, sZ, sS, i64_w, i32_w]; rfl
                 refine pure_ (i := 1) (N := some 106) (v := ?_) (a' := ?_) (TF 2 57) rfl rfl (any_of HT_.out (by kernel_rfl)) (fun _ _ _ h => h) (Or.inl ⟨by rfl, ?_⟩) ?_ ?_
                 rotate_left; · intro w'; go_simp; with_reducible rfl
                 rotate_left; · simp only [Act.put, sI, sZ, sS, i64_w, i32_w]; rfl
                 refine pure_ (i := 2) (N := some 107) (v := ?_) (a' := ?_) (TF 3 56) rfl rfl (any_of HT_.out (by kernel_rfl)) (fun _ _ _ h => h) (Or.inl ⟨by rfl, ?_⟩) ?_ ?_
                 rotate_left; · intro w'; go_simp; with_reducible rfl
                 rotate_left; · simp only [Act.put, sI, sZ, sS, i64_w, i32_w]; rfl
                 refine pure_ (i := 3) (N := some 108) (v := ?_) (a' := ?_) (TF 4 55) rfl rfl (any_of HT_.out (by kernel_rfl)) (fun _ _ _ h => h) (Or.inl ⟨by rfl, ?_⟩) ?_ ?_
                 rotate_left; · intro w'; go_simp; with_reducible rfl
                 rotate_left; · simp only [Act.put, sI, sZ, sS, i64_w, i32_w]; rfl
                 refine pure_ (i := 4) (N := some 109) (v := ?_) (a' := ?_) (TF 5 54) rfl rfl (any_of HT_.out (by kernel_rfl)) (fun _ _ _ h => h) (Or.inl ⟨by rfl, ?_⟩) ?_ ?_
                 rotate_left; · intro w'; go_simp; with_reducible rfl
                 rotate_left; · simp only [Act.put, sI, sZ, sS, i64_w, i32_w]; rfl
                 refine pure_ (i := 5) (N := some 110) (v := ?_) (a' := ?_) (TF 6 53) rfl rfl (any_of HT_.out (by kernel_rfl)) (fun _ _ _ h => h) (Or.inl ⟨by rfl, ?_⟩) ?_ ?_
                 rotate_left; · intro w'; go_simp; with_reducible rfl
                 rotate_left; · simp only [Act.put, sI, sZ, sS, i64_w, i32_w]; rfl
                 refine pure_ (i := 6) (N := some 111) (v := ?_) (a' := ?_) (TF 7 52) rfl rfl (any_of HT_.out (by kernel_rfl)) (fun _ _ _ h => h) (Or.inl ⟨by rfl, ?_⟩) ?_ ?_
                 rotate_left; · intro w'; go_simp; with_reducible rfl
                 rotate_left; · simp only [Act.put, sI, sZ, sS, i64_w, i32_w]; rfl
                 refine take_ (i := 7) (N := some 112) (v := ?_) (a' := ?_) (TF 8 51) rfl rfl (take_ofW HT_.out HW_.out (by kernel_rfl)) (fun _ _ _ h => h) (Or.inl ⟨by rfl, ?_⟩) hHeld ?_ ?_
                 rotate_left
                 ·rintro w' ⟨s0, s1, s2⟩
                  go_simp
                  with_reducible rfl
                 rotate_left
                 ·simp only [Act.put, sI, sZ, sS, i64_w, i32_w]
                  rfl
                 refine pure_ (i := 8) (N := some 113) (v := ?_) (a' := ?_) (TF 9 50) rfl rfl (any_of HT_.out (by kernel_rfl)) (fun _ _ _ h => h) (Or.inl ⟨by rfl, ?_⟩) ?_ ?_
                 rotate_left; · intro w'; go_simp; with_reducible rfl
                 rotate_left; · simp only [Act.put, sI, sZ, sS, i64_w, i32_w]; rfl
                 refine pure_ (i := 9) (N := some 114) (v := ?_) (a' := ?_) (TF 10 49) rfl rfl (any_of HT_.out (by kernel_rfl)) (fun _ _ _ h => h) (Or.inl ⟨by rfl, ?_⟩) ?_ ?_
                 rotate_left; · intro w'; go_simp; with_reducible rfl
                 rotate_left; · simp only [Act.put, sI, sZ, sS, i64_w, i32_w]; rfl
                 refine pure_ (i := 10) (N := some 115) (v := ?_) (a' := ?_) (TF 11 48) rfl rfl (any_of HT_.out (by kernel_rfl)) (fun _ _ _ h => h) (Or.inl ⟨by rfl, ?_⟩) ?_ ?_
                 rotate_left; · intro w'; go_simp; with_reducible rfl
                 rotate_left; · simp only [Act.put, sI, sZ, sS, i64_w, i32_w]; rfl
                 refine pure_ (i := 11) (N := some 116) (v := ?_) (a' := ?_) (TF 12 47) rfl rfl (any_of HT_.out (by kernel_rfl)) (fun _ _ _ h => h) (Or.inl ⟨by rfl, ?_⟩) ?_ ?_
                 rotate_left; · intro w'; go_simp; with_reducible rfl
                 rotate_left; · simp only [Act.put, sI, sZ, sS, i64_w, i32_w]; rfl
                 refine pure_ (i := 12) (N := some 117) (v := ?_) (a' := ?_) (TF 13 46) rfl rfl (any_of HT_.out (by kernel_rfl)) (fun _ _ _ h => h) (Or.inl ⟨by rfl, ?_⟩) ?_ ?_
                 rotate_left; · intro w'; go_simp; with_reducible rfl
                 rotate_left; · simp only [Act.put, sI, sZ, sS, i64_w, i32_w]; rfl
                 refine take_ (i := 13) (N := some 118) (v := ?_) (a' := ?_) (TF 14 45) rfl rfl (take_ofW HT_.out HW_.out (by kernel_rfl)) (fun _ _ _ h => h) (Or.inl ⟨by rfl, ?_⟩) hHeld ?_ ?_
                 rotate_left
                 ·rintro w' ⟨s0, s1, s2⟩
                  go_simp
                  with_reducible rfl
                 rotate_left
                 ·simp only [Act.put, sI, sZ, sS, i64_w, i32_w]
                  rfl
                 refine pure_ (i := 14) (N := some 119) (v := ?_) (a' := ?_) (TF 15 44) rfl rfl (any_of HT_.out (by kernel_rfl)) (fun _ _ _ h => h) (Or.inl ⟨by rfl, ?_⟩) ?_ ?_
                 rotate_left; · intro w'; go_simp; with_reducible rfl
                 rotate_left; · simp only [Act.put, sI, sZ, sS, i64_w, i32_w]; rfl
                 refine pure_ (i := 15) (N := some 120) (v := ?_) (a' := ?_) (TF 16 43) rfl rfl (any_of HT_.out (by kernel_rfl)) (fun _ _ _ h => h) (Or.inl ⟨by rfl, ?_⟩) ?_ ?_
                 rotate_left; · intro w'; go_simp; with_reducible rfl
                 rotate_left; · simp only [Act.put, sI, sZ, sS, i64_w, i32_w]; rfl
                 refine pure_ (i := 16) (N := some 121) (v := ?_) (a' := ?_) (TF 17 42) rfl rfl (any_of HT_.out (by kernel_rfl)) (fun _ _ _ h => h) (Or.inl ⟨by rfl, ?_⟩) ?_ ?_
                 rotate_left; · intro w'; go_simp; with_reducible rfl
                 rotate_left; · simp only [Act.put, sI, sZ, sS, i64_w, i32_w]; rfl
                 refine pure_ (i := 17) (N := some 122) (v := ?_) (a' := ?_) (TF 18 41) rfl rfl (any_of HT_.out (by kernel_rfl)) (fun _ _ _ h => h) (Or.inl ⟨by rfl, ?_⟩) ?_ ?_
                 rotate_left; · intro w'; go_simp; with_reducible rfl
                 rotate_left; · simp only [Act.put, sI, sZ, sS, i64_w, i32_w]; rfl
                 refine pure_ (i := 18) (N := some 123) (v := ?_) (a' := ?_) (TF 19 40) rfl rfl (any_of HT_.out (by kernel_rfl)) (fun _ _ _ h => h) (Or.inl ⟨by rfl, ?_⟩) ?_ ?_
                 rotate_left; · intro w'; go_simp; with_reducible rfl
                 rotate_left; · simp only [Act.put, sI, sZ, sS, i64_w, i32_w]; rfl
                 refine pure_ (i := 19) (N := some 124) (v := ?_) (a' := ?_) (TF 20 39) rfl rfl (any_of HT_.out (by kernel_rfl)) (fun _ _ _ h => h) (Or.inl ⟨by rfl, ?_⟩) ?_ ?_
                 rotate_left; · intro w'; go_simp; with_reducible rfl
                 rotate_left; · simp only [Act.put, sI, sZ, sS, i64_w, i32_w]; rfl
                 refine pure_ (i := 20) (N := some 125) (v := ?_) (a' := ?_) (TF 21 38) rfl rfl (any_of HT_.out (by kernel_rfl)) (fun _ _ _ h => h) (Or.inl ⟨by rfl, ?_⟩) ?_ ?_
                 rotate_left; · intro w'; go_simp; with_reducible rfl
                 rotate_left; · simp only [Act.put, sI, sZ, sS, i64_w, i32_w]; rfl
                 refine pure_ (i := 21) (N := some 126) (v := undef) (a' := ?_) (TF 22 37) rfl rfl (any_of HT_.out (by kernel_rfl)) (fun _ _ _ h => h) (Or.inr ⟨by rfl, rfl⟩) ?_ ?_
                 rotate_left
                 ·simp only [Act.put, sI, sZ, sS, i64_w, i32_w]
                  rfl
                 refine pure_ (i := 22) (N := some 127) (v := undef) (a' := ?_) (TF 23 36) rfl rfl (any_of HT_.out (by kernel_rfl)) (fun _ _ _ h => h) (Or.inr ⟨by rfl, rfl⟩) ?_ ?_
                 rotate_left
                 ·simp only [Act.put, sI, sZ, sS, i64_w, i32_w]
                  rfl
                 refine pure_ (i := 23) (N := some 128) (v := undef) (a' := ?_) (TF 24 35) rfl rfl (any_of HT_.out (by kernel_rfl)) (fun _ _ _ h => h) (Or.inr ⟨by rfl, rfl⟩) ?_ ?_
                 rotate_left
                 ·simp only [Act.put, sI, sZ, sS, i64_w, i32_w]
                  rfl
                 refine pure_ (i := 24) (N := some 129) (v := undef) (a' := ?_) (TF 25 34) rfl rfl (any_of HT_.out (by kernel_rfl)) (fun _ _ _ h => h) (Or.inr ⟨by rfl, rfl⟩) ?_ ?_
                 rotate_left
                 ·simp only [Act.put, sI, sZ, sS, i64_w, i32_w]
                  rfl
                 refine pure_ (i := 25) (N := some 130) (v := undef) (a' := ?_) (TF 26 33) rfl rfl (any_of HT_.out (by kernel_rfl)) (fun _ _ _ h => h) (Or.inr ⟨by rfl, rfl⟩) ?_ ?_
                 rotate_left
                 ·simp only [Act.put, sI, sZ, sS, i64_w, i32_w]
                  rfl
                 refine pure_ (i := 26) (N := some 131) (v := undef) (a' := ?_) (TF 27 32) rfl rfl (any_of HT_.out (by kernel_rfl)) (fun _ _ _ h => h) (Or.inr ⟨by rfl, rfl⟩) ?_ ?_
                 rotate_left
                 ·simp only [Act.put, sI, sZ, sS, i64_w, i32_w]
                  rfl
                 refine pure_ (i := 27) (N := some 132) (v := undef) (a' := ?_) (TF 28 31) rfl rfl (any_of HT_.out (by kernel_rfl)) (fun _ _ _ h => h) (Or.inr ⟨by rfl, rfl⟩) ?_ ?_
                 rotate_left
                 ·simp only [Act.put, sI, sZ, sS, i64_w, i32_w]
                  rfl
                 refine pure_ (i := 28) (N := some 133) (v := undef) (a' := ?_) (TF 29 30) rfl rfl (any_of HT_.out (by kernel_rfl)) (fun _ _ _ h => h) (Or.inr ⟨by rfl, rfl⟩) ?_ ?_
                 rotate_left
                 ·simp only [Act.put, sI, sZ, sS, i64_w, i32_w]
                  rfl
                 refine pure_ (i := 29) (N := some 134) (v := undef) (a' := ?_) (TF 30 29) rfl rfl (any_of HT_.out (by kernel_rfl)) (fun _ _ _ h => h) (Or.inr ⟨by rfl, rfl⟩) ?_ ?_
                 rotate_left
                 ·simp only [Act.put, sI, sZ, sS, i64_w, i32_w]
                  rfl
                 refine pure_ (i := 30) (N := some 135) (v := undef) (a' := ?_) (TF 31 28) rfl rfl (any_of HT_.out (by kernel_rfl)) (fun _ _ _ h => h) (Or.inr ⟨by rfl, rfl⟩) ?_ ?_
                 rotate_left
                 ·simp only [Act.put, sI, sZ, sS, i64_w, i32_w]
                  rfl
                 refine pure_ (i := 31) (N := some 136) (v := undef) (a' := ?_) (TF 32 27) rfl rfl (any_of HT_.out (by kernel_rfl)) (fun _ _ _ h => h) (Or.inr ⟨by rfl, rfl⟩) ?_ ?_
                 rotate_left
                 ·simp only [Act.put, sI, sZ, sS, i64_w, i32_w]
                  rfl
                 refine pure_ (i := 32) (N := some 137) (v := undef) (a' := ?_) (TF 33 26) rfl rfl (any_of HT_.out (by kernel_rfl)) (fun _ _ _ h => h) (Or.inr ⟨by rfl, rfl⟩) ?_ ?_
                 rotate_left
                 ·simp only [Act.put, sI, sZ, sS, i64_w, i32_w]
                  rfl
                 refine pure_ (i := 33) (N := some 138) (v := undef) (a' := ?_) (TF 34 25) rfl rfl (any_of HT_.out (by kernel_rfl)) (fun _ _ _ h => h) (Or.inr ⟨by rfl, rfl⟩) ?_ ?_
                 rotate_left
                 ·simp only [Act.put, sI, sZ, sS, i64_w, i32_w]
                  rfl
                 refine pure_ (i := 34) (N := some 139) (v := undef) (a' := ?_) (TF 35 24) rfl rfl (any_of HT_.out (by kernel_rfl)) (fun _ _ _ h => h) (Or.inr ⟨by rfl, rfl⟩) ?_ ?_
                 rotate_left
                 ·simp only [Act.put, sI, sZ, sS, i64_w, i32_w]
                  rfl
                 refine pure_ (i := 35) (N := some 140) (v := undef) (a' := ?_) (TF 36 23) rfl rfl (any_of HT_.out (by kernel_rfl)) (fun _ _ _ h => h) (Or.inr ⟨by rfl, rfl⟩) ?_ ?_
                 rotate_left
                 ·simp only [Act.put, sI, sZ, sS, i64_w, i32_w]
                  rfl
                 refine pure_ (i := 36) (N := some 141) (v := undef) (a' := ?_) (TF 37 22) rfl rfl (any_of HT_.out (by kernel_rfl)) (fun _ _ _ h => h) (Or.inr ⟨by rfl, rfl⟩) ?_ ?_
                 rotate_left
                 ·simp only [Act.put, sI, sZ, sS, i64_w, i32_w]
                  rfl
                 refine pure_ (i := 37) (N := some 142) (v := undef) (a' := ?_) (TF 38 21) rfl rfl (any_of HT_.out (by kernel_rfl)) (fun _ _ _ h => h) (Or.inr ⟨by rfl, rfl⟩) ?_ ?_
                 rotate_left
                 ·simp only [Act.put, sI, sZ, sS, i64_w, i32_w]
                  rfl
                 refine pure_ (i := 38) (N := some 143) (v := undef) (a' := ?_) (TF 39 20) rfl rfl (any_of HT_.out (by kernel_rfl)) (fun _ _ _ h => h) (Or.inr ⟨by rfl, rfl⟩) ?_ ?_
                 rotate_left
                 ·simp only [Act.put, sI, sZ, sS, i64_w, i32_w]
                  rfl
                 refine pure_ (i := 39) (N := some 144) (v := undef) (a' := ?_) (TF 40 19) rfl rfl (any_of HT_.out (by kernel_rfl)) (fun _ _ _ h => h) (Or.inr ⟨by rfl, rfl⟩) ?_ ?_
                 rotate_left
                 ·simp only [Act.put, sI, sZ, sS, i64_w, i32_w]
                  rfl
                 refine pure_ (i := 40) (N := some 145) (v := undef) (a' := ?_) (TF 41 18) rfl rfl (any_of HT_.out (by kernel_rfl)) (fun _ _ _ h => h) (Or.inr ⟨by rfl, rfl⟩) ?_ ?_
                 rotate_left
                 ·simp only [Act.put, sI, sZ, sS, i64_w, i32_w]
                  rfl
                 refine pure_ (i := 41) (N := some 146) (v := undef) (a' := ?_) (TF 42 17) rfl rfl (any_of HT_.out (by kernel_rfl)) (fun _ _ _ h => h) (Or.inr ⟨by rfl, rfl⟩) ?_ ?_
                 rotate_left
                 ·simp only [Act.put, sI, sZ, sS, i64_w, i32_w]
                  rfl
                 refine pure_ (i := 42) (N := some 147) (v := undef) (a' := ?_) (TF 43 16) rfl rfl (any_of HT_.out (by kernel_rfl)) (fun _ _ _ h => h) (Or.inr ⟨by rfl, rfl⟩) ?_ ?_
                 rotate_left
                 ·simp only [Act.put, sI, sZ, sS, i64_w, i32_w]
                  rfl
                 refine pure_ (i := 43) (N := some 148) (v := undef) (a' := ?_) (TF 44 15) rfl rfl (any_of HT_.out (by kernel_rfl)) (fun _ _ _ h => h) (Or.inr ⟨by rfl, rfl⟩) ?_ ?_
                 rotate_left
                 ·simp only [Act.put, sI, sZ, sS, i64_w, i32_w]
                  rfl
                 refine pure_ (i := 44) (N := some 149) (v := undef) (a' := ?_) (TF 45 14) rfl rfl (any_of HT_.out (by kernel_rfl)) (fun _ _ _ h => h) (Or.inr ⟨by rfl, rfl⟩) ?_ ?_
                 rotate_left
                 ·simp only [Act.put, sI, sZ, sS, i64_w, i32_w]
                  rfl
                 refine pure_ (i := 45) (N := some 150) (v := undef) (a' := ?_) (TF 46 13) rfl rfl (any_of HT_.out (by kernel_rfl)) (fun _ _ _ h => h) (Or.inr ⟨by rfl, rfl⟩) ?_ ?_
                 rotate_left
                 ·simp only [Act.put, sI, sZ, sS, i64_w, i32_w]
                  rfl
                 refine pure_ (i := 46) (N := some 151) (v := undef) (a' := ?_) (TF 47 12) rfl rfl (any_of HT_.out (by kernel_rfl)) (fun _ _ _ h => h) (Or.inr ⟨by rfl, rfl⟩) ?_ ?_
                 rotate_left
                 ·simp only [Act.put, sI, sZ, sS, i64_w, i32_w]
                  rfl
                 refine pure_ (i := 47) (N := some 152) (v := undef) (a' := ?_) (TF 48 11) rfl rfl (any_of HT_.out (by kernel_rfl)) (fun _ _ _ h => h) (Or.inr ⟨by rfl, rfl⟩) ?_ ?_
                 rotate_left
                 ·simp only [Act.put, sI, sZ, sS, i64_w, i32_w]
                  rfl
                 refine pure_ (i := 48) (N := some 153) (v := undef) (a' := ?_) (TF 49 10) rfl rfl (any_of HT_.out (by kernel_rfl)) (fun _ _ _ h => h) (Or.inr ⟨by rfl, rfl⟩) ?_ ?_
                 rotate_left
                 ·simp only [Act.put, sI, sZ, sS, i64_w, i32_w]
                  rfl
                 refine pure_ (i := 49) (N := some 154) (v := undef) (a' := ?_) (TF 50 9) rfl rfl (any_of HT_.out (by kernel_rfl)) (fun _ _ _ h => h) (Or.inr ⟨by rfl, rfl⟩) ?_ ?_
                 rotate_left
                 ·simp only [Act.put, sI, sZ, sS, i64_w, i32_w]
                  rfl
                 refine pure_ (i := 50) (N := some 155) (v := undef) (a' := ?_) (TF 51 8) rfl rfl (any_of HT_.out (by kernel_rfl)) (fun _ _ _ h => h) (Or.inr ⟨by rfl, rfl⟩) ?_ ?_
                 rotate_left
                 ·simp only [Act.put, sI, sZ, sS, i64_w, i32_w]
                  rfl
                 refine pure_ (i := 51) (N := some 156) (v := undef) (a' := ?_) (TF 52 7) rfl rfl (any_of HT_.out (by kernel_rfl)) (fun _ _ _ h => h) (Or.inr ⟨by rfl, rfl⟩) ?_ ?_
                 rotate_left
                 ·simp only [Act.put, sI, sZ, sS, i64_w, i32_w]
                  rfl
                 refine pure_ (i := 52) (N := some 157) (v := undef) (a' := ?_) (TF 53 6) rfl rfl (any_of HT_.out (by kernel_rfl)) (fun _ _ _ h => h) (Or.inr ⟨by rfl, rfl⟩) ?_ ?_
                 rotate_left
                 ·simp only [Act.put, sI, sZ, sS, i64_w, i32_w]
                  rfl
                 refine pure_ (i := 53) (N := some 158) (v := undef) (a' := ?_) (TF 54 5) rfl rfl (any_of HT_.out (by kernel_rfl)) (fun _ _ _ h => h) (Or.inr ⟨by rfl, rfl⟩) ?_ ?_
                 rotate_left
                 ·simp only [Act.put, sI, sZ, sS, i64_w, i32_w]
                  rfl
                 refine pure_ (i := 54) (N := some 159) (v := undef) (a' := ?_) (TF 55 4) rfl rfl (any_of HT_.out (by kernel_rfl)) (fun _ _ _ h => h) (Or.inr ⟨by rfl, rfl⟩) ?_ ?_
                 rotate_left
                 ·simp only [Act.put, sI, sZ, sS, i64_w, i32_w]
                  rfl
                 refine pure_ (i := 55) (N := some 160) (v := undef) (a' := ?_) (TF 56 3) rfl rfl (any_of HT_.out (by kernel_rfl)) (fun _ _ _ h => h) (Or.inr ⟨by rfl, rfl⟩) ?_ ?_
                 rotate_left
                 ·simp only [Act.put, sI, sZ, sS, i64_w, i32_w]
                  rfl
                 refine pure_ (i := 56) (N := some 161) (v := undef) (a' := ?_) (TF 57 2) rfl rfl (any_of HT_.out (by kernel_rfl)) (fun _ _ _ h => h) (Or.inr ⟨by rfl, rfl⟩) ?_ ?_
                 rotate_left
                 ·simp only [Act.put, sI, sZ, sS, i64_w, i32_w]
                  rfl
                 refine pure_ (i := 57) (N := some 162) (v := ?_) (a' := ?_) (TF 58 1) rfl rfl (any_of HT_.out (by kernel_rfl)) (fun _ _ _ h => h) (Or.inl ⟨by rfl, ?_⟩) ?_ ?_
                 rotate_left; · intro w'; go_simp; with_reducible rfl
                 rotate_left; · simp only [Act.put, sI, sZ, sS, i64_w, i32_w]; rfl
                 refine pure_ (i := 58) (N := some 163) (v := ?_) (a' := ?_) (TF 59 0) rfl rfl (any_of HT_.out (by kernel_rfl)) (fun _ _ _ h => h) (Or.inl ⟨by rfl, ?_⟩) ?_ ?_
                 rotate_left; · intro w'; go_simp; with_reducible rfl
                 rotate_left; · simp only [Act.put, sI, sZ, sS, i64_w, i32_w]; rfl
                 refine done_ (done_of HT_.out (by kernel_rfl)) ?_
                 try go_wp2
                 go_meet
                 case rel => exact ⟨_, (false), (by first | rfl | (simp; done) | (simp [*]; done)), H', ⟨by have := HJ6.out; have := HK2.out; have := HJ53.out; first | omega | exact Nat.le_refl _⟩, ⟨by apply Kd.N_to; exact Kd.N_mono HO_346001.out (fun _ hk => ⟨hk.2.2.1, ⟨hk.2.2.2.1, hk.2.2.2.2⟩⟩)⟩, ⟨by apply Kd.N_to; exact Kd.N_mono HO370.out (fun _ hk => ⟨hk.2.2.1, ⟨hk.2.2.2.1, hk.2.2.2.2⟩⟩)⟩, ⟨by refine bT ?_; exact BK345.out⟩, ⟨by refine bT ?_; exact BK373.out⟩, ⟨bA⟩⟩
               ·rw [if_neg c75] at H
                have c75b0 : (t367 == 0) = false := beq_eq_false_iff_ne.mpr c75
                have c75b1 : (t367 != 0) = true := bne_iff_ne.mpr c75
                exact absurd H (by simp)
              ·rw [if_neg c74] at H
               have c74b0 : ((t368.length : Int) == 0) = false := beq_eq_false_iff_ne.mpr c74
               have c74b1 : ((t368.length : Int) != 0) = true := bne_iff_ne.mpr c74
               have c74b2 : ¬ (t368 = []) := fun h_ => c74 (by rw [h_]; rfl)
               exact absurd H (by simp)
             ·rw [if_neg c73] at H
              have c73b0 : (t372 == 0) = false := beq_eq_false_iff_ne.mpr c73
              have c73b1 : (t372 != 0) = true := bne_iff_ne.mpr c73
              exact absurd H (by simp)
            ·rw [if_neg c72] at H
             have c72b0 : (x18_53 == 0) = false := beq_eq_false_iff_ne.mpr c72
             have c72b1 : (x18_53 != 0) = true := bne_iff_ne.mpr c72
             (first | rw [c72b0] | (simp only [i64_w, i32_w]; rw [c72b0]) | skip)
             by_cases c90 : x18_53 > 0
             ·rw [if_pos c90] at H
              have c90b0 : decide (0 < x18_53) = true := decide_eq_true c90
              clear c90
              obtain ⟨ji91, hji91⟩ : ∃ j_ : Int, (wrap64 (x18_53 - 1)) = j_ := ⟨_, rfl⟩
              replace H : (if 0 ≤ (ji91) then (if (ji91) < (x13_2.length : Int) then (if t372 = (rd x13_2 (ji91)) then (if (ji91) < (x14_2.length : Int) then (if t371.toList = ((rd_T66 x14_2 (ji91)).f2).toList then (if t367 = ((rd_T66 x14_2 (ji91)).f0) then (l13_JournalTorn.j4 kj53 a3 ((t368.length : Int) != x18_53) x346000_2 x346001_2 x346002_2) else (none)) else (none)) else (none)) else (none)) else (none)) else (none)) = some r := by first | (rw [hji91] at H; exact H) | (simp only [hji91] at H ⊢; exact H)
              have hji91w : (IntKind.i64.wrap (x18_53 - 1)) = ji91 := (i64_w _).trans hji91
              by_cases c92 : 0 ≤ (ji91)
              ·rw [if_pos c92] at H
               have c92b0 : decide (0 ≤ (ji91)) = true := decide_eq_true c92
               clear c92
               by_cases c93 : (ji91) < (x13_2.length : Int)
               ·rw [if_pos c93] at H
                have c93b0 : decide ((ji91) < (x13_2.length : Int)) = true := decide_eq_true c93
                clear c93
                by_cases c94 : t372 = (rd x13_2 (ji91))
                ·rw [if_pos c94] at H
                 have c94b0 : (t372 == (rd x13_2 (ji91))) = true := beq_iff_eq.mpr c94
                 have c94b1 : (t372 != (rd x13_2 (ji91))) = false := bne_eq_false_iff_eq.mpr c94
                 clear c94
                 by_cases c95 : (ji91) < (x14_2.length : Int)
                 ·rw [if_pos c95] at H
                  have c95b0 : decide ((ji91) < (x14_2.length : Int)) = true := decide_eq_true c95
                  clear c95
                  by_cases c96 : t371.toList = ((rd_T66 x14_2 (ji91)).f2).toList
                  ·rw [if_pos c96] at H
                   have c96b0 : (t371.toList == ((rd_T66 x14_2 (ji91)).f2).toList) = true := beq_iff_eq.mpr c96
                   have c96b1 : (t371.toList != ((rd_T66 x14_2 (ji91)).f2).toList) = false := bne_eq_false_iff_eq.mpr c96
                   clear c96
                   by_cases c97 : t367 = ((rd_T66 x14_2 (ji91)).f0)
                   ·rw [if_pos c97] at H
                    have c97b0 : (t367 == ((rd_T66 x14_2 (ji91)).f0)) = true := beq_iff_eq.mpr c97
                    have c97b1 : (t367 != ((rd_T66 x14_2 (ji91)).f0)) = false := bne_eq_false_iff_eq.mpr c97
                    clear c97
                    have H' := Ax.mk H
                    clear H
                    try go_wp2
                    have n0_ : Ax (Kd.R (Kd.int .i64) 3 (((w68.setCell ⟨gb373, 0, none⟩ (.int .u64 t367)).setCell ⟨gb373, 1, none⟩ (.slice Ao71 t368.length co71)).setCell ⟨gb373, 2, none⟩ (.string t371)) w.heap.size (fun _ => True) u13 x13_2) := ⟨by apply Kd.R_to; exact Kd.R_mono (Kd.R_far (p := ⟨gb373, 2, none⟩) (Kd.R_far (p := ⟨gb373, 1, none⟩) (Kd.R_far (p := ⟨gb373, 0, none⟩) (Kd.R_types HO_13.out BK373.out (by decide)) (fun _ hk => hk.2) (.int .u64 t367)) (fun _ hk => hk.2) (.slice Ao71 t368.length co71)) (fun _ hk => hk.2) (.string t371)) (fun _ hk => trivial)⟩
                    have n1_ : Ax (Kd.N k66 66 (((w68.setCell ⟨gb373, 0, none⟩ (.int .u64 t367)).setCell ⟨gb373, 1, none⟩ (.slice Ao71 t368.length co71)).setCell ⟨gb373, 2, none⟩ (.string t371)) w.heap.size (fun k_ => some k_ ≠ (u13 : Value).ownBlock ∧ some k_ ≠ (.slice Ao71 t368.length co71 : Value).ownBlock ∧ k_ ≠ gb345 ∧ k_ ≠ gb373) u14 x14_2) := ⟨by apply Kd.N_to; exact Kd.N_mono (Kd.N_far (p := ⟨gb373, 2, none⟩) (Kd.N_far (p := ⟨gb373, 1, none⟩) (Kd.N_far (p := ⟨gb373, 0, none⟩) (Kd.N_mono HO_14.out (fun k_ hk => (⟨hk, hk.2⟩ : _ ∧ k_ ≠ gb373))) (fun _ hk => hk.2) (.int .u64 t367)) (fun _ hk => hk.2) (.slice Ao71 t368.length co71)) (fun _ hk => hk.2) (.string t371)) (fun _ hk => ⟨hk.1.1.1.1, ⟨hk.1.1.2, ⟨hk.1.1.1.2, hk.1.2⟩⟩⟩)⟩
                    have n2_ : Ax (Kd.N k44 44 (((w68.setCell ⟨gb373, 0, none⟩ (.int .u64 t367)).setCell ⟨gb373, 1, none⟩ (.slice Ao71 t368.length co71)).setCell ⟨gb373, 2, none⟩ (.string t371)) w.heap.size (fun k_ => some k_ ≠ (u13 : Value).ownBlock ∧ some k_ ≠ (u14 : Value).ownBlock ∧ some k_ ≠ (.slice Ao71 t368.length co71 : Value).ownBlock ∧ k_ ≠ gb345 ∧ k_ ≠ gb373) u346001 x346001_2) := ⟨by apply Kd.N_to; exact Kd.N_mono (Kd.N_far (p := ⟨gb373, 2, none⟩) (Kd.N_far (p := ⟨gb373, 1, none⟩) (Kd.N_far (p := ⟨gb373, 0, none⟩) (Kd.N_mono HO_346001.out (fun k_ hk => (⟨hk, hk.2⟩ : _ ∧ k_ ≠ gb373))) (fun _ hk => hk.2) (.int .u64 t367)) (fun _ hk => hk.2) (.slice Ao71 t368.length co71)) (fun _ hk => hk.2) (.string t371)) (fun _ hk => ⟨hk.1.1.1.1, ⟨hk.1.1.1.2.1, ⟨hk.1.1.2, ⟨hk.1.1.1.2.2, hk.1.2⟩⟩⟩⟩)⟩
                    have n3_ : Ax (Kd.N k44 44 (((w68.setCell ⟨gb373, 0, none⟩ (.int .u64 t367)).setCell ⟨gb373, 1, none⟩ (.slice Ao71 t368.length co71)).setCell ⟨gb373, 2, none⟩ (.string t371)) w.heap.size (fun k_ => some k_ ≠ (u13 : Value).ownBlock ∧ some k_ ≠ (u14 : Value).ownBlock ∧ some k_ ≠ (u346001 : Value).ownBlock ∧ k_ ≠ gb345 ∧ k_ ≠ gb373) (.slice Ao71 t368.length co71) t368) := ⟨by apply Kd.N_to; exact Kd.N_mono (Kd.N_far (p := ⟨gb373, 2, none⟩) (Kd.N_far (p := ⟨gb373, 1, none⟩) (Kd.N_far (p := ⟨gb373, 0, none⟩) (Kd.N_mono HO370.out (fun k_ hk => (⟨hk, hk.2⟩ : _ ∧ k_ ≠ gb373))) (fun _ hk => hk.2) (.int .u64 t367)) (fun _ hk => hk.2) (.slice Ao71 t368.length co71)) (fun _ hk => hk.2) (.string t371)) (fun _ hk => ⟨hk.1.1.1, ⟨hk.1.1.2.1, ⟨hk.1.1.2.2.1, ⟨hk.1.1.2.2.2, hk.1.2⟩⟩⟩⟩)⟩
                    have n4_ : Ax ((((w68.setCell ⟨gb373, 0, none⟩ (.int .u64 t367)).setCell ⟨gb373, 1, none⟩ (.slice Ao71 t368.length co71)).setCell ⟨gb373, 2, none⟩ (.string t371)).heap[gb345]? = some (.cells #[.int .u64 x346000_2, u346001, .string x346002_2] 66 (0, 0))) := ⟨by refine bT ?_; refine bR ?_ NB345_373.out _; refine bT ?_; refine bR ?_ NB345_373.out _; refine bT ?_; refine bR ?_ NB345_373.out _; refine bT ?_; exact BK345.out⟩
                    have n5_ : Ax ((((w68.setCell ⟨gb373, 0, none⟩ (.int .u64 t367)).setCell ⟨gb373, 1, none⟩ (.slice Ao71 t368.length co71)).setCell ⟨gb373, 2, none⟩ (.string t371)).heap[gb373]? = some (.cells #[.int .u64 t367, .slice Ao71 t368.length co71, .string t371] 66 (0, 0))) := ⟨by refine bT ?_; refine bU (cs := #[.int .u64 t367, .slice Ao71 t368.length co71, .string (⟨#[]⟩ : ByteArray)]) ?_ 2 _ rfl; refine bT ?_; refine bU (cs := #[.int .u64 t367, .slice none 0 0, .string (⟨#[]⟩ : ByteArray)]) ?_ 1 _ rfl; refine bT ?_; refine bU (cs := #[.int .u64 0, .slice none 0 0, .string (⟨#[]⟩ : ByteArray)]) ?_ 0 _ rfl; refine bT ?_; exact BK373.out⟩
                    have n6_ : Ax (Below w.heap.size w (((w68.setCell ⟨gb373, 0, none⟩ (.int .u64 t367)).setCell ⟨gb373, 1, none⟩ (.slice Ao71 t368.length co71)).setCell ⟨gb373, 2, none⟩ (.string t371))) := ⟨bA⟩
                    (try clear HO_13)
                    (try clear HO_14)
                    (try clear HO_346001)
                    (try clear HO370)
                    (try clear BK345)
                    (try clear BK373)
                    (try clear HB)
                    generalize (((w68.setCell ⟨gb373, 0, none⟩ (.int .u64 t367)).setCell ⟨gb373, 1, none⟩ (.slice Ao71 t368.length co71)).setCell ⟨gb373, 2, none⟩ (.string t371)) = w98 at n0_ n1_ n2_ n3_ n4_ n5_ n6_ ⊢
                    have HO_13 := n0_
                    have HO_14 := n1_
                    have HO_346001 := n2_
                    have HO370 := n3_
                    have BK345 := n4_
                    have BK373 := n5_
                    have HB := n6_
                    clear n0_ n1_ n2_ n3_ n4_ n5_ n6_
                    have n0_ := Ax.mk (Kd.R_drew HO_13.out)
                    have n1_ := Ax.mk (Kd.N_drew HO_14.out)
                    have n2_ := Ax.mk (Kd.N_drew HO_346001.out)
                    have n3_ := Ax.mk (Kd.N_drew HO370.out)
                    have n4_ := Ax.mk (blk_drew BK345.out)
                    have n5_ := Ax.mk (blk_drew BK373.out)
                    have n6_ := Ax.mk (below_drew1 HB.out)
                    clear HO_13
                    clear HO_14
                    clear HO_346001
                    clear HO370
                    clear BK345
                    clear BK373
                    clear HB
                    have HO_13 := n0_
                    have HO_14 := n1_
                    have HO_346001 := n2_
                    have HO370 := n3_
                    have BK345 := n4_
                    have BK373 := n5_
                    have HB := n6_
                    clear n0_ n1_ n2_ n3_ n4_ n5_ n6_
                    obtain ⟨Ao100, co100, eo100⟩ := Kd.R_slice HO_13.out
                    (first | subst eo100 | (injection eo100 with f1_ f2_ f3_; have f4_ := f1_.symm; have f5_ := f3_.symm; clear f1_ f2_ f3_; subst f4_; subst f5_))
                    have p377 : 0 ≤ ((ji91) : Int) := ofD
                    have q377 : (ji91) < (x13_2.length : Int) := ofD
                    obtain ⟨ad377, e377, hx377_0⟩ := Kd.at_int (Kd.R_reads' HO_13.out).2.2 (ji91) p377 q377
                    cases e377
                    replace p377 := eq_true p377
                    replace q377 := eq_true q377
                    obtain ⟨Ao101, co101, eo101⟩ := Kd.N_slice HO_14.out
                    (first | subst eo101 | (injection eo101 with f1_ f2_ f3_; have f4_ := f1_.symm; have f5_ := f3_.symm; clear f1_ f2_ f3_; subst f4_; subst f5_))
                    have p378 : 0 ≤ ((ji91) : Int) := ofD
                    have q378 : (ji91) < (x14_2.length : Int) := ofD
                    obtain ⟨ad378, A378_1, c378_1, e378, hx378_0, hx378_1, hx378_2, hl378_1, hi378_1⟩ := at_T66 (Kd.N_reads' HO_14.out).2.2 (ji91) p378 q378
                    cases e378
                    obtain ⟨ce378, hce378, hMe378, hcc378⟩ := Kd.N_get HO_14.out z66 (ji91) p378 (by first | exact q378 | exact ofD | (have e_ := (Kd.N_reads' HO_14.out).1; omega))
                    obtain ⟨ua378_1, uc378_1, rfl, ul378_1, ge378_1⟩ := k66_openF hMe378
                    have hv378_1 := hcc378 1 _ rfl
                    rw [add_field _ _ 1 (by omega)] at hv378_1
                    replace hv378_1 := Option.some.inj (hv378_1.symm.trans hx378_1)
                    injection hv378_1 with hva_ hvn_ hvc_
                    rw [hva_] at ge378_1
                    rw [hvc_] at ul378_1
                    have HL378_1 := Ax.mk (show Kd.V k44 44 _ w.heap.size _ _ ((rd_T66 x14_2 (ji91)).f1) from Kd.V_mk ul378_1 ge378_1)
                    clear hva_ hvn_ hvc_ ge378_1 ul378_1
                    clear hcc378 hce378
                    have HR378_1 := Ax.mk hi378_1
                    have HC378_1 := Ax.mk hl378_1
                    clear hi378_1 hl378_1
                    replace p378 := eq_true p378
                    replace q378 := eq_true q378
                    have p379 : 0 ≤ ((ji91) : Int) := ofD
                    have q379 : (ji91) < (x14_2.length : Int) := ofD
                    obtain ⟨ad379, A379_1, c379_1, e379, hx379_0, hx379_1, hx379_2, hl379_1, hi379_1⟩ := at_T66 (Kd.N_reads' HO_14.out).2.2 (ji91) p379 q379
                    obtain rfl : ad378 = ad379 := (by injection e379)
                    obtain ⟨ce379, hce379, hMe379, hcc379⟩ := Kd.N_get HO_14.out z66 (ji91) p379 (by first | exact q379 | exact ofD | (have e_ := (Kd.N_reads' HO_14.out).1; omega))
                    obtain ⟨ua379_1, uc379_1, rfl, ul379_1, ge379_1⟩ := k66_openF hMe379
                    have hv379_1 := hcc379 1 _ rfl
                    rw [add_field _ _ 1 (by omega)] at hv379_1
                    replace hv379_1 := Option.some.inj (hv379_1.symm.trans hx379_1)
                    injection hv379_1 with hva_ hvn_ hvc_
                    rw [hva_] at ge379_1
                    rw [hvc_] at ul379_1
                    have HL379_1 := Ax.mk (show Kd.V k44 44 _ w.heap.size _ _ ((rd_T66 x14_2 (ji91)).f1) from Kd.V_mk ul379_1 ge379_1)
                    clear hva_ hvn_ hvc_ ge379_1 ul379_1
                    clear hcc379 hce379
                    have HR379_1 := Ax.mk hi379_1
                    have HC379_1 := Ax.mk hl379_1
                    clear hi379_1 hl379_1
                    replace p379 := eq_true p379
                    replace q379 := eq_true q379
                    have ea_ := Option.some.inj (hx378_1.symm.trans hx379_1)
                    injection ea_ with ea_ en_ ec_
                    subst ea_
                    subst ec_
                    clear en_
                    as_aux_lemma =>
                    refine start_ (n := 59) (S := fun w' => w'.cell? ⟨gb373, 0, none⟩ = some (.int .u64 t367) ∧ w'.cell? ⟨gb373, 1, none⟩ = some (.slice Ao71 t368.length co71) ∧ w'.cell? ⟨gb373, 2, none⟩ = some (.string t371) ∧ w'.cell? (ad377.add ((ji91)).toNat) = some (.int .i64 (rd x13_2 (ji91))) ∧ w'.cell? (ad378.add (((ji91)).toNat * 3)) = some (.int .u64 ((rd_T66 x14_2 (ji91)).f0)) ∧ w'.cell? ⟨(ad378.add (((ji91)).toNat * 3)).block, (ad378.add (((ji91)).toNat * 3)).off + 1, none⟩ = some (.slice A378_1 ((rd_T66 x14_2 (ji91)).f1).length c378_1) ∧ w'.cell? ⟨(ad378.add (((ji91)).toNat * 3)).block, (ad378.add (((ji91)).toNat * 3)).off + 2, none⟩ = some (.string ((rd_T66 x14_2 (ji91)).f2)) ∧ w'.cell? (ad378.add (((ji91)).toNat * 3)) = some (.int .u64 ((rd_T66 x14_2 (ji91)).f0)) ∧ w'.cell? ⟨(ad378.add (((ji91)).toNat * 3)).block, (ad378.add (((ji91)).toNat * 3)).off + 1, none⟩ = some (.slice A378_1 ((rd_T66 x14_2 (ji91)).f1).length c378_1) ∧ w'.cell? ⟨(ad378.add (((ji91)).toNat * 3)).block, (ad378.add (((ji91)).toNat * 3)).off + 2, none⟩ = some (.string ((rd_T66 x14_2 (ji91)).f2))) (ds := []) (TF 0 59) (by kernel_rfl) rfl rfl ⟨(bC BK373.out 0).trans rfl, (bC BK373.out 1).trans rfl, (bC BK373.out 2).trans rfl, hx377_0, hx378_0, hx378_1, hx378_2, hx379_0, hx379_1, hx379_2⟩ (fun hHeld => ?_); refine with_tabW l13_JournalTorn.tab21 l13_JournalTorn.bits21 (fun HT_ HW_ => ?_)
                    generalize w98.drew = w99 at HO_13 HO_14 HO_346001 HO370 BK345 BK373 HB HL378_1 HL379_1 HR378_1 HR379_1 hx377_0 hx378_0 hx378_1 hx378_2 hx379_0 hx379_1 hx379_2 hHeld ⊢
                    refine pure_ (i := 0) (N := some 105) (v := ?_) (a' := ?_) (TF 1 58) rfl rfl (any_of HT_.out (by kernel_rfl)) (fun _ _ _ h => h) (Or.inl ⟨by rfl, ?_⟩) ?_ ?_
                    rotate_left; · intro w'; go_simp; with_reducible rfl
                    rotate_left; · simp only [Act.put, sI, sZ, sS, i64_w, i32_w]; rfl
                    refine pure_ (i := 1) (N := some 106) (v := ?_) (a' := ?_) (TF 2 57) rfl rfl (any_of HT_.out (by kernel_rfl)) (fun _ _ _ h => h) (Or.inl ⟨by rfl, ?_⟩) ?_ ?_
                    rotate_left; · intro w'; go_simp; with_reducible rfl
                    rotate_left; · simp only [Act.put, sI, sZ, sS, i64_w, i32_w]; rfl
                    refine pure_ (i := 2) (N := some 107) (v := ?_) (a' := ?_) (TF 3 56) rfl rfl (any_of HT_.out (by kernel_rfl)) (fun _ _ _ h => h) (Or.inl ⟨by rfl, ?_⟩) ?_ ?_
                    rotate_left; · intro w'; go_simp; with_reducible rfl
                    rotate_left; · simp only [Act.put, sI, sZ, sS, i64_w, i32_w]; rfl
                    refine pure_ (i := 3) (N := some 108) (v := undef) (a' := ?_) (TF 4 55) rfl rfl (any_of HT_.out (by kernel_rfl)) (fun _ _ _ h => h) (Or.inr ⟨by rfl, rfl⟩) ?_ ?_
                    rotate_left
                    ·simp only [Act.put, sI, sZ, sS, i64_w, i32_w]
                     rfl
                    refine pure_ (i := 4) (N := some 109) (v := undef) (a' := ?_) (TF 5 54) rfl rfl (any_of HT_.out (by kernel_rfl)) (fun _ _ _ h => h) (Or.inr ⟨by rfl, rfl⟩) ?_ ?_
                    rotate_left
                    ·simp only [Act.put, sI, sZ, sS, i64_w, i32_w]
                     rfl
                    refine pure_ (i := 5) (N := some 110) (v := undef) (a' := ?_) (TF 6 53) rfl rfl (any_of HT_.out (by kernel_rfl)) (fun _ _ _ h => h) (Or.inr ⟨by rfl, rfl⟩) ?_ ?_
                    rotate_left
                    ·simp only [Act.put, sI, sZ, sS, i64_w, i32_w]
                     rfl
                    refine pure_ (i := 6) (N := some 111) (v := undef) (a' := ?_) (TF 7 52) rfl rfl (any_of HT_.out (by kernel_rfl)) (fun _ _ _ h => h) (Or.inr ⟨by rfl, rfl⟩) ?_ ?_
                    rotate_left
                    ·simp only [Act.put, sI, sZ, sS, i64_w, i32_w]
                     rfl
                    refine pure_ (i := 7) (N := some 112) (v := undef) (a' := ?_) (TF 8 51) rfl rfl (any_of HT_.out (by kernel_rfl)) (fun _ _ _ h => h) (Or.inr ⟨by rfl, rfl⟩) ?_ ?_
                    rotate_left
                    ·simp only [Act.put, sI, sZ, sS, i64_w, i32_w]
                     rfl
                    refine pure_ (i := 8) (N := some 113) (v := undef) (a' := ?_) (TF 9 50) rfl rfl (any_of HT_.out (by kernel_rfl)) (fun _ _ _ h => h) (Or.inr ⟨by rfl, rfl⟩) ?_ ?_
                    rotate_left
                    ·simp only [Act.put, sI, sZ, sS, i64_w, i32_w]
                     rfl
                    refine pure_ (i := 9) (N := some 114) (v := undef) (a' := ?_) (TF 10 49) rfl rfl (any_of HT_.out (by kernel_rfl)) (fun _ _ _ h => h) (Or.inr ⟨by rfl, rfl⟩) ?_ ?_
                    rotate_left
                    ·simp only [Act.put, sI, sZ, sS, i64_w, i32_w]
                     rfl
                    refine pure_ (i := 10) (N := some 115) (v := undef) (a' := ?_) (TF 11 48) rfl rfl (any_of HT_.out (by kernel_rfl)) (fun _ _ _ h => h) (Or.inr ⟨by rfl, rfl⟩) ?_ ?_
                    rotate_left
                    ·simp only [Act.put, sI, sZ, sS, i64_w, i32_w]
                     rfl
                    refine pure_ (i := 11) (N := some 116) (v := undef) (a' := ?_) (TF 12 47) rfl rfl (any_of HT_.out (by kernel_rfl)) (fun _ _ _ h => h) (Or.inr ⟨by rfl, rfl⟩) ?_ ?_
                    rotate_left
                    ·simp only [Act.put, sI, sZ, sS, i64_w, i32_w]
                     rfl
                    refine pure_ (i := 12) (N := some 117) (v := undef) (a' := ?_) (TF 13 46) rfl rfl (any_of HT_.out (by kernel_rfl)) (fun _ _ _ h => h) (Or.inr ⟨by rfl, rfl⟩) ?_ ?_
                    rotate_left
                    ·simp only [Act.put, sI, sZ, sS, i64_w, i32_w]
                     rfl
                    refine pure_ (i := 13) (N := some 118) (v := undef) (a' := ?_) (TF 14 45) rfl rfl (any_of HT_.out (by kernel_rfl)) (fun _ _ _ h => h) (Or.inr ⟨by rfl, rfl⟩) ?_ ?_
                    rotate_left
                    ·simp only [Act.put, sI, sZ, sS, i64_w, i32_w]
                     rfl
                    refine pure_ (i := 14) (N := some 119) (v := undef) (a' := ?_) (TF 15 44) rfl rfl (any_of HT_.out (by kernel_rfl)) (fun _ _ _ h => h) (Or.inr ⟨by rfl, rfl⟩) ?_ ?_
                    rotate_left
                    ·simp only [Act.put, sI, sZ, sS, i64_w, i32_w]
                     rfl
                    refine pure_ (i := 15) (N := some 120) (v := undef) (a' := ?_) (TF 16 43) rfl rfl (any_of HT_.out (by kernel_rfl)) (fun _ _ _ h => h) (Or.inr ⟨by rfl, rfl⟩) ?_ ?_
                    rotate_left
                    ·simp only [Act.put, sI, sZ, sS, i64_w, i32_w]
                     rfl
                    refine pure_ (i := 16) (N := some 121) (v := ?_) (a' := ?_) (TF 17 42) rfl rfl (any_of HT_.out (by kernel_rfl)) (fun _ _ _ h => h) (Or.inl ⟨by rfl, ?_⟩) ?_ ?_
                    rotate_left; · intro w'; go_simp; with_reducible rfl
                    rotate_left; · simp only [Act.put, sI, sZ, sS, i64_w, i32_w]; rfl
                    refine pure_ (i := 17) (N := some 122) (v := ?_) (a' := ?_) (TF 18 41) rfl rfl (any_of HT_.out (by kernel_rfl)) (fun _ _ _ h => h) (Or.inl ⟨by rfl, ?_⟩) ?_ ?_
                    rotate_left; · intro w'; go_simp; with_reducible rfl
                    rotate_left; · simp only [Act.put, sI, sZ, sS, i64_w, i32_w]; rfl
                    refine pure_ (i := 18) (N := some 123) (v := ?_) (a' := ?_) (TF 19 40) rfl rfl (any_of HT_.out (by kernel_rfl)) (fun _ _ _ h => h) (Or.inl ⟨by rfl, ?_⟩) ?_ ?_
                    rotate_left; · intro w'; go_simp; with_reducible rfl
                    rotate_left; · simp only [Act.put, sI, sZ, sS, i64_w, i32_w]; rfl
                    refine pure_ (i := 19) (N := some 124) (v := ?_) (a' := ?_) (TF 20 39) rfl rfl (any_of HT_.out (by kernel_rfl)) (fun _ _ _ h => h) (Or.inl ⟨by rfl, ?_⟩) ?_ ?_
                    rotate_left; · intro w'; go_simp; with_reducible rfl
                    rotate_left; · simp only [Act.put, sI, sZ, sS, i64_w, i32_w]; rfl
                    refine pure_ (i := 20) (N := some 125) (v := ?_) (a' := ?_) (TF 21 38) rfl rfl (any_of HT_.out (by kernel_rfl)) (fun _ _ _ h => h) (Or.inl ⟨by rfl, ?_⟩) ?_ ?_
                    rotate_left; · intro w'; go_simp; with_reducible rfl
                    rotate_left; · simp only [Act.put, sI, sZ, sS, i64_w, i32_w]; rfl
                    refine pure_ (i := 21) (N := some 126) (v := ?_) (a' := ?_) (TF 22 37) rfl rfl (any_of HT_.out (by kernel_rfl)) (fun _ _ _ h => h) (Or.inl ⟨by rfl, ?_⟩) ?_ ?_
                    rotate_left; · intro w'; go_simp; with_reducible rfl
                    rotate_left; · simp only [Act.put, sI, sZ, sS, i64_w, i32_w]; rfl
                    refine pure_ (i := 22) (N := some 127) (v := ?_) (a' := ?_) (TF 23 36) rfl rfl (any_of HT_.out (by kernel_rfl)) (fun _ _ _ h => h) (Or.inl ⟨by rfl, ?_⟩) ?_ ?_
                    rotate_left; · intro w'; go_simp; with_reducible rfl
                    rotate_left; · simp only [Act.put, sI, sZ, sS, i64_w, i32_w]; rfl
                    refine pure_ (i := 23) (N := some 128) (v := ?_) (a' := ?_) (TF 24 35) rfl rfl (any_of HT_.out (by kernel_rfl)) (fun _ _ _ h => h) (Or.inl ⟨by rfl, ?_⟩) ?_ ?_
                    rotate_left; · intro w'; go_simp; with_reducible rfl
                    rotate_left; · simp only [Act.put, sI, sZ, sS, i64_w, i32_w]; rfl
                    refine pure_ (i := 24) (N := some 129) (v := ?_) (a' := ?_) (TF 25 34) rfl rfl (any_of HT_.out (by kernel_rfl)) (fun _ _ _ h => h) (Or.inl ⟨by rfl, ?_⟩) ?_ ?_
                    rotate_left; · intro w'; go_simp; with_reducible rfl
                    rotate_left; · simp only [Act.put, sI, sZ, sS, i64_w, i32_w]; rfl
                    refine pure_ (i := 25) (N := some 130) (v := ?_) (a' := ?_) (TF 26 33) rfl rfl (any_of HT_.out (by kernel_rfl)) (fun _ _ _ h => h) (Or.inl ⟨by rfl, ?_⟩) ?_ ?_
                    rotate_left; · intro w'; go_simp; with_reducible rfl
                    rotate_left; · simp only [Act.put, sI, sZ, sS, i64_w, i32_w]; rfl
                    refine take_ (i := 26) (N := some 131) (v := ?_) (a' := ?_) (TF 27 32) rfl rfl (take_ofW HT_.out HW_.out (by kernel_rfl)) (fun _ _ _ h => h) (Or.inl ⟨by rfl, ?_⟩) hHeld ?_ ?_
                    rotate_left
                    ·rintro w' ⟨s0, s1, s2, s3, s4, s5, s6, s7, s8, s9⟩
                     go_simp
                     with_reducible rfl
                    rotate_left
                    ·simp only [Act.put, sI, sZ, sS, i64_w, i32_w]
                     rfl
                    refine pure_ (i := 27) (N := some 132) (v := ?_) (a' := ?_) (TF 28 31) rfl rfl (any_of HT_.out (by kernel_rfl)) (fun _ _ _ h => h) (Or.inl ⟨by rfl, ?_⟩) ?_ ?_
                    rotate_left; · intro w'; go_simp; with_reducible rfl
                    rotate_left; · simp only [Act.put, sI, sZ, sS, i64_w, i32_w]; rfl
                    refine pure_ (i := 28) (N := some 133) (v := ?_) (a' := ?_) (TF 29 30) rfl rfl (any_of HT_.out (by kernel_rfl)) (fun _ _ _ h => h) (Or.inl ⟨by rfl, ?_⟩) ?_ ?_
                    rotate_left; · intro w'; go_simp; with_reducible rfl
                    rotate_left; · simp only [Act.put, sI, sZ, sS, i64_w, i32_w]; rfl
                    refine pure_ (i := 29) (N := some 134) (v := ?_) (a' := ?_) (TF 30 29) rfl rfl (any_of HT_.out (by kernel_rfl)) (fun _ _ _ h => h) (Or.inl ⟨by rfl, ?_⟩) ?_ ?_
                    rotate_left; · intro w'; go_simp; with_reducible rfl
                    rotate_left; · simp only [Act.put, sI, sZ, sS, i64_w, i32_w]; rfl
                    refine pure_ (i := 31) (N := some 136) (v := ?_) (a' := ?_) (BT 59 3221225471) rfl rfl (any_of HT_.out (by kernel_rfl)) (fun _ _ _ h => h) (Or.inl ⟨by rfl, ?_⟩) ?_ ?_
                    rotate_left; · intro w'; go_simp; with_reducible rfl
                    rotate_left; · simp only [Act.put, sI, sZ, sS, i64_w, i32_w]; rfl
                    refine pure_ (i := 32) (N := some 137) (v := ?_) (a' := ?_) (BT 59 7516192767) rfl rfl (any_of HT_.out (by kernel_rfl)) (fun _ _ _ h => h) (Or.inl ⟨by rfl, ?_⟩) ?_ ?_
                    rotate_left; · intro w'; go_simp; with_reducible rfl
                    rotate_left; · simp only [Act.put, sI, sZ, sS, i64_w, i32_w]; rfl
                    refine pure_ (i := 33) (N := some 138) (v := ?_) (a' := ?_) (BT 59 16106127359) rfl rfl (any_of HT_.out (by kernel_rfl)) (fun _ _ _ h => h) (Or.inl ⟨by rfl, ?_⟩) ?_ ?_
                    rotate_left; · intro w'; go_simp; with_reducible rfl
                    rotate_left; · simp only [Act.put, sI, sZ, sS, i64_w, i32_w]; rfl
                    refine pure_ (i := 34) (N := some 139) (v := ?_) (a' := ?_) (BT 59 33285996543) rfl rfl (any_of HT_.out (by kernel_rfl)) (fun _ _ _ h => h) (Or.inl ⟨by rfl, ?_⟩) ?_ ?_
                    rotate_left; · intro w'; go_simp; with_reducible rfl
                    rotate_left; · simp only [Act.put, sI, sZ, sS, i64_w, i32_w]; rfl
                    refine pure_ (i := 35) (N := some 140) (v := ?_) (a' := ?_) (BT 59 67645734911) rfl rfl (any_of HT_.out (by kernel_rfl)) (fun _ _ _ h => h) (Or.inl ⟨by rfl, ?_⟩) ?_ ?_
                    rotate_left; · intro w'; go_simp; with_reducible rfl
                    rotate_left; · simp only [Act.put, sI, sZ, sS, i64_w, i32_w]; rfl
                    refine take_ (i := 30) (N := some 135) (v := ?_) (a' := ?_) (TF 36 23) rfl rfl (take_ofW HT_.out HW_.out (by kernel_rfl)) (fun _ _ _ h => h) (Or.inl ⟨by rfl, ?_⟩) hHeld ?_ ?_
                    rotate_left
                    ·rintro w' ⟨s0, s1, s2, s3, s4, s5, s6, s7, s8, s9⟩
                     go_simp
                     with_reducible rfl
                    rotate_left
                    ·simp only [Act.put, sI, sZ, sS, i64_w, i32_w]
                     rfl
                    refine take_ (i := 36) (N := some 141) (v := ?_) (a' := ?_) (TF 37 22) rfl rfl (take_ofW HT_.out HW_.out (by kernel_rfl)) (fun _ _ _ h => h) (Or.inl ⟨by rfl, ?_⟩) hHeld ?_ ?_
                    rotate_left
                    ·rintro w' ⟨s0, s1, s2, s3, s4, s5, s6, s7, s8, s9⟩
                     go_simp
                     with_reducible rfl
                    rotate_left
                    ·simp only [Act.put, sI, sZ, sS, i64_w, i32_w]
                     rfl
                    refine pure_ (i := 37) (N := some 142) (v := ?_) (a' := ?_) (TF 38 21) rfl rfl (any_of HT_.out (by kernel_rfl)) (fun _ _ _ h => h) (Or.inl ⟨by rfl, ?_⟩) ?_ ?_
                    rotate_left; · intro w'; go_simp; with_reducible rfl
                    rotate_left; · simp only [Act.put, sI, sZ, sS, i64_w, i32_w]; rfl
                    refine pure_ (i := 38) (N := some 143) (v := ?_) (a' := ?_) (TF 39 20) rfl rfl (any_of HT_.out (by kernel_rfl)) (fun _ _ _ h => h) (Or.inl ⟨by rfl, ?_⟩) ?_ ?_
                    rotate_left; · intro w'; go_simp; with_reducible rfl
                    rotate_left; · simp only [Act.put, sI, sZ, sS, i64_w, i32_w]; rfl
                    refine pure_ (i := 39) (N := some 144) (v := ?_) (a' := ?_) (TF 40 19) rfl rfl (any_of HT_.out (by kernel_rfl)) (fun _ _ _ h => h) (Or.inl ⟨by rfl, ?_⟩) ?_ ?_
                    rotate_left; · intro w'; go_simp; with_reducible rfl
                    rotate_left; · simp only [Act.put, sI, sZ, sS, i64_w, i32_w]; rfl
                    refine pure_ (i := 40) (N := some 145) (v := ?_) (a' := ?_) (TF 41 18) rfl rfl (any_of HT_.out (by kernel_rfl)) (fun _ _ _ h => h) (Or.inl ⟨by rfl, ?_⟩) ?_ ?_
                    rotate_left; · intro w'; go_simp; with_reducible rfl
                    rotate_left; · simp only [Act.put, sI, sZ, sS, i64_w, i32_w]; rfl
                    refine pure_ (i := 42) (N := some 147) (v := ?_) (a' := ?_) (BT 59 6597069766655) rfl rfl (any_of HT_.out (by kernel_rfl)) (fun _ _ _ h => h) (Or.inl ⟨by rfl, ?_⟩) ?_ ?_
                    rotate_left; · intro w'; go_simp; with_reducible rfl
                    rotate_left; · simp only [Act.put, sI, sZ, sS, i64_w, i32_w]; rfl
                    refine pure_ (i := 43) (N := some 148) (v := ?_) (a' := ?_) (BT 59 15393162788863) rfl rfl (any_of HT_.out (by kernel_rfl)) (fun _ _ _ h => h) (Or.inl ⟨by rfl, ?_⟩) ?_ ?_
                    rotate_left; · intro w'; go_simp; with_reducible rfl
                    rotate_left; · simp only [Act.put, sI, sZ, sS, i64_w, i32_w]; rfl
                    refine pure_ (i := 44) (N := some 149) (v := ?_) (a' := ?_) (BT 59 32985348833279) rfl rfl (any_of HT_.out (by kernel_rfl)) (fun _ _ _ h => h) (Or.inl ⟨by rfl, ?_⟩) ?_ ?_
                    rotate_left; · intro w'; go_simp; with_reducible rfl
                    rotate_left; · simp only [Act.put, sI, sZ, sS, i64_w, i32_w]; rfl
                    refine pure_ (i := 45) (N := some 150) (v := ?_) (a' := ?_) (BT 59 68169720922111) rfl rfl (any_of HT_.out (by kernel_rfl)) (fun _ _ _ h => h) (Or.inl ⟨by rfl, ?_⟩) ?_ ?_
                    rotate_left; · intro w'; go_simp; with_reducible rfl
                    rotate_left; · simp only [Act.put, sI, sZ, sS, i64_w, i32_w]; rfl
                    refine pure_ (i := 46) (N := some 151) (v := ?_) (a' := ?_) (BT 59 138538465099775) rfl rfl (any_of HT_.out (by kernel_rfl)) (fun _ _ _ h => h) (Or.inl ⟨by rfl, ?_⟩) ?_ ?_
                    rotate_left; · intro w'; go_simp; with_reducible rfl
                    rotate_left; · simp only [Act.put, sI, sZ, sS, i64_w, i32_w]; rfl
                    refine take_ (i := 41) (N := some 146) (v := ?_) (a' := ?_) (TF 47 12) rfl rfl (take_ofW HT_.out HW_.out (by kernel_rfl)) (fun _ _ _ h => h) (Or.inl ⟨by rfl, ?_⟩) hHeld ?_ ?_
                    rotate_left
                    ·rintro w' ⟨s0, s1, s2, s3, s4, s5, s6, s7, s8, s9⟩
                     go_simp
                     with_reducible rfl
                    rotate_left
                    ·simp only [Act.put, sI, sZ, sS, i64_w, i32_w]
                     rfl
                    refine take_ (i := 47) (N := some 152) (v := ?_) (a' := ?_) (TF 48 11) rfl rfl (take_ofW HT_.out HW_.out (by kernel_rfl)) (fun _ _ _ h => h) (Or.inl ⟨by rfl, ?_⟩) hHeld ?_ ?_
                    rotate_left
                    ·rintro w' ⟨s0, s1, s2, s3, s4, s5, s6, s7, s8, s9⟩
                     go_simp
                     with_reducible rfl
                    rotate_left
                    ·simp only [Act.put, sI, sZ, sS, i64_w, i32_w]
                     rfl
                    refine pure_ (i := 48) (N := some 153) (v := ?_) (a' := ?_) (TF 49 10) rfl rfl (any_of HT_.out (by kernel_rfl)) (fun _ _ _ h => h) (Or.inl ⟨by rfl, ?_⟩) ?_ ?_
                    rotate_left; · intro w'; go_simp; with_reducible rfl
                    rotate_left; · simp only [Act.put, sI, sZ, sS, i64_w, i32_w]; rfl
                    refine pure_ (i := 49) (N := some 154) (v := ?_) (a' := ?_) (TF 50 9) rfl rfl (any_of HT_.out (by kernel_rfl)) (fun _ _ _ h => h) (Or.inl ⟨by rfl, ?_⟩) ?_ ?_
                    rotate_left; · intro w'; go_simp; with_reducible rfl
                    rotate_left; · simp only [Act.put, sI, sZ, sS, i64_w, i32_w]; rfl
                    refine pure_ (i := 50) (N := some 155) (v := ?_) (a' := ?_) (TF 51 8) rfl rfl (any_of HT_.out (by kernel_rfl)) (fun _ _ _ h => h) (Or.inl ⟨by rfl, ?_⟩) ?_ ?_
                    rotate_left; · intro w'; go_simp; with_reducible rfl
                    rotate_left; · simp only [Act.put, sI, sZ, sS, i64_w, i32_w]; rfl
                    refine pure_ (i := 51) (N := some 156) (v := ?_) (a' := ?_) (TF 52 7) rfl rfl (any_of HT_.out (by kernel_rfl)) (fun _ _ _ h => h) (Or.inl ⟨by rfl, ?_⟩) ?_ ?_
                    rotate_left; · intro w'; go_simp; with_reducible rfl
                    rotate_left; · simp only [Act.put, sI, sZ, sS, i64_w, i32_w]; rfl
                    refine pure_ (i := 54) (N := some 159) (v := ?_) (a' := ?_) (BT 59 22517998136852479) rfl rfl (any_of HT_.out (by kernel_rfl)) (fun _ _ _ h => h) (Or.inl ⟨by rfl, ?_⟩) ?_ ?_
                    rotate_left; · intro w'; go_simp; with_reducible rfl
                    rotate_left; · simp only [Act.put, sI, sZ, sS, i64_w, i32_w]; rfl
                    refine take_ (i := 52) (N := some 157) (v := ?_) (a' := ?_) (BT 59 27021597764222975) rfl rfl (take_ofW HT_.out HW_.out (by kernel_rfl)) (fun _ _ _ h => h) (Or.inl ⟨by rfl, ?_⟩) hHeld ?_ ?_
                    rotate_left
                    ·rintro w' ⟨s0, s1, s2, s3, s4, s5, s6, s7, s8, s9⟩
                     go_simp
                     with_reducible rfl
                    rotate_left
                    ·simp only [Act.put, sI, sZ, sS, i64_w, i32_w]
                     rfl
                    refine pure_ (i := 53) (N := some 158) (v := ?_) (a' := ?_) (TF 55 4) rfl rfl (any_of HT_.out (by kernel_rfl)) (fun _ _ _ h => h) (Or.inl ⟨by rfl, ?_⟩) ?_ ?_
                    rotate_left; · intro w'; go_simp; with_reducible rfl
                    rotate_left; · simp only [Act.put, sI, sZ, sS, i64_w, i32_w]; rfl
                    refine pure_ (i := 55) (N := some 160) (v := ?_) (a' := ?_) (TF 56 3) rfl rfl (any_of HT_.out (by kernel_rfl)) (fun _ _ _ h => h) (Or.inl ⟨by rfl, ?_⟩) ?_ ?_
                    rotate_left; · intro w'; go_simp; with_reducible rfl
                    rotate_left; · simp only [Act.put, sI, sZ, sS, i64_w, i32_w]; rfl
                    refine pure_ (i := 56) (N := some 161) (v := ?_) (a' := ?_) (TF 57 2) rfl rfl (any_of HT_.out (by kernel_rfl)) (fun _ _ _ h => h) (Or.inl ⟨by rfl, ?_⟩) ?_ ?_
                    rotate_left; · intro w'; go_simp; with_reducible rfl
                    rotate_left; · simp only [Act.put, sI, sZ, sS, i64_w, i32_w]; rfl
                    refine pure_ (i := 57) (N := some 162) (v := ?_) (a' := ?_) (TF 58 1) rfl rfl (any_of HT_.out (by kernel_rfl)) (fun _ _ _ h => h) (Or.inl ⟨by rfl, ?_⟩) ?_ ?_
                    rotate_left; · intro w'; go_simp; with_reducible rfl
                    rotate_left; · simp only [Act.put, sI, sZ, sS, i64_w, i32_w]; rfl
                    refine pure_ (i := 58) (N := some 163) (v := ?_) (a' := ?_) (TF 59 0) rfl rfl (any_of HT_.out (by kernel_rfl)) (fun _ _ _ h => h) (Or.inl ⟨by rfl, ?_⟩) ?_ ?_
                    rotate_left; · intro w'; go_simp; with_reducible rfl
                    rotate_left; · simp only [Act.put, sI, sZ, sS, i64_w, i32_w]; rfl
                    refine done_ (done_of HT_.out (by kernel_rfl)) ?_
                    try go_wp2
                    go_meet
                    case rel => exact ⟨_, (((t368.length : Int) != x18_53)), (by first | rfl | (simp; done) | (simp [*]; done)), H', ⟨by have := HJ6.out; have := HK2.out; have := HJ53.out; first | omega | exact Nat.le_refl _⟩, ⟨by apply Kd.N_to; exact Kd.N_mono HO_346001.out (fun _ hk => ⟨hk.2.2.1, ⟨hk.2.2.2.1, hk.2.2.2.2⟩⟩)⟩, ⟨by apply Kd.N_to; exact Kd.N_mono HO370.out (fun _ hk => ⟨hk.2.2.1, ⟨hk.2.2.2.1, hk.2.2.2.2⟩⟩)⟩, ⟨by refine bT ?_; exact BK345.out⟩, ⟨by refine bT ?_; exact BK373.out⟩, ⟨bA⟩⟩
                   ·rw [if_neg c97] at H
                    have c97b0 : (t367 == ((rd_T66 x14_2 (ji91)).f0)) = false := beq_eq_false_iff_ne.mpr c97
                    have c97b1 : (t367 != ((rd_T66 x14_2 (ji91)).f0)) = true := bne_iff_ne.mpr c97
                    exact absurd H (by simp)
                  ·rw [if_neg c96] at H
                   have c96b0 : (t371.toList == ((rd_T66 x14_2 (ji91)).f2).toList) = false := beq_eq_false_iff_ne.mpr c96
                   have c96b1 : (t371.toList != ((rd_T66 x14_2 (ji91)).f2).toList) = true := bne_iff_ne.mpr c96
                   exact absurd H (by simp)
                 ·rw [if_neg c95] at H
                  exact absurd H (by simp)
                ·rw [if_neg c94] at H
                 have c94b0 : (t372 == (rd x13_2 (ji91))) = false := beq_eq_false_iff_ne.mpr c94
                 have c94b1 : (t372 != (rd x13_2 (ji91))) = true := bne_iff_ne.mpr c94
                 exact absurd H (by simp)
               ·rw [if_neg c93] at H
                exact absurd H (by simp)
              ·rw [if_neg c92] at H
               exact absurd H (by simp)
             ·rw [if_neg c90] at H
              have c90b0 : decide (0 < x18_53) = false := decide_eq_false c90
              clear c90
              have H' := Ax.mk H
              clear H
              try go_wp2
              have n0_ : Ax (Kd.R (Kd.int .i64) 3 (((w68.setCell ⟨gb373, 0, none⟩ (.int .u64 t367)).setCell ⟨gb373, 1, none⟩ (.slice Ao71 t368.length co71)).setCell ⟨gb373, 2, none⟩ (.string t371)) w.heap.size (fun _ => True) u13 x13_2) := ⟨by apply Kd.R_to; exact Kd.R_mono (Kd.R_far (p := ⟨gb373, 2, none⟩) (Kd.R_far (p := ⟨gb373, 1, none⟩) (Kd.R_far (p := ⟨gb373, 0, none⟩) (Kd.R_types HO_13.out BK373.out (by decide)) (fun _ hk => hk.2) (.int .u64 t367)) (fun _ hk => hk.2) (.slice Ao71 t368.length co71)) (fun _ hk => hk.2) (.string t371)) (fun _ hk => trivial)⟩
              have n1_ : Ax (Kd.N k66 66 (((w68.setCell ⟨gb373, 0, none⟩ (.int .u64 t367)).setCell ⟨gb373, 1, none⟩ (.slice Ao71 t368.length co71)).setCell ⟨gb373, 2, none⟩ (.string t371)) w.heap.size (fun k_ => some k_ ≠ (u13 : Value).ownBlock ∧ some k_ ≠ (.slice Ao71 t368.length co71 : Value).ownBlock ∧ k_ ≠ gb345 ∧ k_ ≠ gb373) u14 x14_2) := ⟨by apply Kd.N_to; exact Kd.N_mono (Kd.N_far (p := ⟨gb373, 2, none⟩) (Kd.N_far (p := ⟨gb373, 1, none⟩) (Kd.N_far (p := ⟨gb373, 0, none⟩) (Kd.N_mono HO_14.out (fun k_ hk => (⟨hk, hk.2⟩ : _ ∧ k_ ≠ gb373))) (fun _ hk => hk.2) (.int .u64 t367)) (fun _ hk => hk.2) (.slice Ao71 t368.length co71)) (fun _ hk => hk.2) (.string t371)) (fun _ hk => ⟨hk.1.1.1.1, ⟨hk.1.1.2, ⟨hk.1.1.1.2, hk.1.2⟩⟩⟩)⟩
              have n2_ : Ax (Kd.N k44 44 (((w68.setCell ⟨gb373, 0, none⟩ (.int .u64 t367)).setCell ⟨gb373, 1, none⟩ (.slice Ao71 t368.length co71)).setCell ⟨gb373, 2, none⟩ (.string t371)) w.heap.size (fun k_ => some k_ ≠ (u13 : Value).ownBlock ∧ some k_ ≠ (u14 : Value).ownBlock ∧ some k_ ≠ (.slice Ao71 t368.length co71 : Value).ownBlock ∧ k_ ≠ gb345 ∧ k_ ≠ gb373) u346001 x346001_2) := ⟨by apply Kd.N_to; exact Kd.N_mono (Kd.N_far (p := ⟨gb373, 2, none⟩) (Kd.N_far (p := ⟨gb373, 1, none⟩) (Kd.N_far (p := ⟨gb373, 0, none⟩) (Kd.N_mono HO_346001.out (fun k_ hk => (⟨hk, hk.2⟩ : _ ∧ k_ ≠ gb373))) (fun _ hk => hk.2) (.int .u64 t367)) (fun _ hk => hk.2) (.slice Ao71 t368.length co71)) (fun _ hk => hk.2) (.string t371)) (fun _ hk => ⟨hk.1.1.1.1, ⟨hk.1.1.1.2.1, ⟨hk.1.1.2, ⟨hk.1.1.1.2.2, hk.1.2⟩⟩⟩⟩)⟩
              have n3_ : Ax (Kd.N k44 44 (((w68.setCell ⟨gb373, 0, none⟩ (.int .u64 t367)).setCell ⟨gb373, 1, none⟩ (.slice Ao71 t368.length co71)).setCell ⟨gb373, 2, none⟩ (.string t371)) w.heap.size (fun k_ => some k_ ≠ (u13 : Value).ownBlock ∧ some k_ ≠ (u14 : Value).ownBlock ∧ some k_ ≠ (u346001 : Value).ownBlock ∧ k_ ≠ gb345 ∧ k_ ≠ gb373) (.slice Ao71 t368.length co71) t368) := ⟨by apply Kd.N_to; exact Kd.N_mono (Kd.N_far (p := ⟨gb373, 2, none⟩) (Kd.N_far (p := ⟨gb373, 1, none⟩) (Kd.N_far (p := ⟨gb373, 0, none⟩) (Kd.N_mono HO370.out (fun k_ hk => (⟨hk, hk.2⟩ : _ ∧ k_ ≠ gb373))) (fun _ hk => hk.2) (.int .u64 t367)) (fun _ hk => hk.2) (.slice Ao71 t368.length co71)) (fun _ hk => hk.2) (.string t371)) (fun _ hk => ⟨hk.1.1.1, ⟨hk.1.1.2.1, ⟨hk.1.1.2.2.1, ⟨hk.1.1.2.2.2, hk.1.2⟩⟩⟩⟩)⟩
              have n4_ : Ax ((((w68.setCell ⟨gb373, 0, none⟩ (.int .u64 t367)).setCell ⟨gb373, 1, none⟩ (.slice Ao71 t368.length co71)).setCell ⟨gb373, 2, none⟩ (.string t371)).heap[gb345]? = some (.cells #[.int .u64 x346000_2, u346001, .string x346002_2] 66 (0, 0))) := ⟨by refine bT ?_; refine bR ?_ NB345_373.out _; refine bT ?_; refine bR ?_ NB345_373.out _; refine bT ?_; refine bR ?_ NB345_373.out _; refine bT ?_; exact BK345.out⟩
              have n5_ : Ax ((((w68.setCell ⟨gb373, 0, none⟩ (.int .u64 t367)).setCell ⟨gb373, 1, none⟩ (.slice Ao71 t368.length co71)).setCell ⟨gb373, 2, none⟩ (.string t371)).heap[gb373]? = some (.cells #[.int .u64 t367, .slice Ao71 t368.length co71, .string t371] 66 (0, 0))) := ⟨by refine bT ?_; refine bU (cs := #[.int .u64 t367, .slice Ao71 t368.length co71, .string (⟨#[]⟩ : ByteArray)]) ?_ 2 _ rfl; refine bT ?_; refine bU (cs := #[.int .u64 t367, .slice none 0 0, .string (⟨#[]⟩ : ByteArray)]) ?_ 1 _ rfl; refine bT ?_; refine bU (cs := #[.int .u64 0, .slice none 0 0, .string (⟨#[]⟩ : ByteArray)]) ?_ 0 _ rfl; refine bT ?_; exact BK373.out⟩
              have n6_ : Ax (Below w.heap.size w (((w68.setCell ⟨gb373, 0, none⟩ (.int .u64 t367)).setCell ⟨gb373, 1, none⟩ (.slice Ao71 t368.length co71)).setCell ⟨gb373, 2, none⟩ (.string t371))) := ⟨bA⟩
              (try clear HO_13)
              (try clear HO_14)
              (try clear HO_346001)
              (try clear HO370)
              (try clear BK345)
              (try clear BK373)
              (try clear HB)
              generalize (((w68.setCell ⟨gb373, 0, none⟩ (.int .u64 t367)).setCell ⟨gb373, 1, none⟩ (.slice Ao71 t368.length co71)).setCell ⟨gb373, 2, none⟩ (.string t371)) = w102 at n0_ n1_ n2_ n3_ n4_ n5_ n6_ ⊢
              have HO_13 := n0_
              have HO_14 := n1_
              have HO_346001 := n2_
              have HO370 := n3_
              have BK345 := n4_
              have BK373 := n5_
              have HB := n6_
              clear n0_ n1_ n2_ n3_ n4_ n5_ n6_
              have n0_ := Ax.mk (Kd.R_drew HO_13.out)
              have n1_ := Ax.mk (Kd.N_drew HO_14.out)
              have n2_ := Ax.mk (Kd.N_drew HO_346001.out)
              have n3_ := Ax.mk (Kd.N_drew HO370.out)
              have n4_ := Ax.mk (blk_drew BK345.out)
              have n5_ := Ax.mk (blk_drew BK373.out)
              have n6_ := Ax.mk (below_drew1 HB.out)
              clear HO_13
              clear HO_14
              clear HO_346001
              clear HO370
              clear BK345
              clear BK373
              clear HB
              have HO_13 := n0_
              have HO_14 := n1_
              have HO_346001 := n2_
              have HO370 := n3_
              have BK345 := n4_
              have BK373 := n5_
              have HB := n6_
              clear n0_ n1_ n2_ n3_ n4_ n5_ n6_
              as_aux_lemma =>
              refine start_ (n := 59) (S := fun w' => True) (ds := []) (TF 0 59) (by kernel_rfl) rfl rfl trivial (fun hHeld => ?_); refine with_tabW l13_JournalTorn.tab21 l13_JournalTorn.bits21 (fun HT_ HW_ => ?_)
              generalize w102.drew = w103 at HO_13 HO_14 HO_346001 HO370 BK345 BK373 HB hHeld ⊢
              refine pure_ (i := 0) (N := some 105) (v := ?_) (a' := ?_) (TF 1 58) rfl rfl (any_of HT_.out (by kernel_rfl)) (fun _ _ _ h => h) (Or.inl ⟨by rfl, ?_⟩) ?_ ?_
              rotate_left; · intro w'; go_simp; with_reducible rfl
              rotate_left; · simp only [Act.put, sI, sZ, sS, i64_w, i32_w]; rfl
              refine pure_ (i := 1) (N := some 106) (v := ?_) (a' := ?_) (TF 2 57) rfl rfl (any_of HT_.out (by kernel_rfl)) (fun _ _ _ h => h) (Or.inl ⟨by rfl, ?_⟩) ?_ ?_
              rotate_left; · intro w'; go_simp; with_reducible rfl
              rotate_left; · simp only [Act.put, sI, sZ, sS, i64_w, i32_w]; rfl
              refine pure_ (i := 2) (N := some 107) (v := ?_) (a' := ?_) (TF 3 56) rfl rfl (any_of HT_.out (by kernel_rfl)) (fun _ _ _ h => h) (Or.inl ⟨by rfl, ?_⟩) ?_ ?_
              rotate_left; · intro w'; go_simp; with_reducible rfl
              rotate_left; · simp only [Act.put, sI, sZ, sS, i64_w, i32_w]; rfl
              refine pure_ (i := 3) (N := some 108) (v := undef) (a' := ?_) (TF 4 55) rfl rfl (any_of HT_.out (by kernel_rfl)) (fun _ _ _ h => h) (Or.inr ⟨by rfl, rfl⟩) ?_ ?_
              rotate_left
              ·simp only [Act.put, sI, sZ, sS, i64_w, i32_w]
               rfl
              refine pure_ (i := 4) (N := some 109) (v := undef) (a' := ?_) (TF 5 54) rfl rfl (any_of HT_.out (by kernel_rfl)) (fun _ _ _ h => h) (Or.inr ⟨by rfl, rfl⟩) ?_ ?_
              rotate_left
              ·simp only [Act.put, sI, sZ, sS, i64_w, i32_w]
               rfl
              refine pure_ (i := 5) (N := some 110) (v := undef) (a' := ?_) (TF 6 53) rfl rfl (any_of HT_.out (by kernel_rfl)) (fun _ _ _ h => h) (Or.inr ⟨by rfl, rfl⟩) ?_ ?_
              rotate_left
              ·simp only [Act.put, sI, sZ, sS, i64_w, i32_w]
               rfl
              refine pure_ (i := 6) (N := some 111) (v := undef) (a' := ?_) (TF 7 52) rfl rfl (any_of HT_.out (by kernel_rfl)) (fun _ _ _ h => h) (Or.inr ⟨by rfl, rfl⟩) ?_ ?_
              rotate_left
              ·simp only [Act.put, sI, sZ, sS, i64_w, i32_w]
               rfl
              refine pure_ (i := 7) (N := some 112) (v := undef) (a' := ?_) (TF 8 51) rfl rfl (any_of HT_.out (by kernel_rfl)) (fun _ _ _ h => h) (Or.inr ⟨by rfl, rfl⟩) ?_ ?_
              rotate_left
              ·simp only [Act.put, sI, sZ, sS, i64_w, i32_w]
               rfl
              refine pure_ (i := 8) (N := some 113) (v := undef) (a' := ?_) (TF 9 50) rfl rfl (any_of HT_.out (by kernel_rfl)) (fun _ _ _ h => h) (Or.inr ⟨by rfl, rfl⟩) ?_ ?_
              rotate_left
              ·simp only [Act.put, sI, sZ, sS, i64_w, i32_w]
               rfl
              refine pure_ (i := 9) (N := some 114) (v := undef) (a' := ?_) (TF 10 49) rfl rfl (any_of HT_.out (by kernel_rfl)) (fun _ _ _ h => h) (Or.inr ⟨by rfl, rfl⟩) ?_ ?_
              rotate_left
              ·simp only [Act.put, sI, sZ, sS, i64_w, i32_w]
               rfl
              refine pure_ (i := 10) (N := some 115) (v := undef) (a' := ?_) (TF 11 48) rfl rfl (any_of HT_.out (by kernel_rfl)) (fun _ _ _ h => h) (Or.inr ⟨by rfl, rfl⟩) ?_ ?_
              rotate_left
              ·simp only [Act.put, sI, sZ, sS, i64_w, i32_w]
               rfl
              refine pure_ (i := 11) (N := some 116) (v := undef) (a' := ?_) (TF 12 47) rfl rfl (any_of HT_.out (by kernel_rfl)) (fun _ _ _ h => h) (Or.inr ⟨by rfl, rfl⟩) ?_ ?_
              rotate_left
              ·simp only [Act.put, sI, sZ, sS, i64_w, i32_w]
               rfl
              refine pure_ (i := 12) (N := some 117) (v := undef) (a' := ?_) (TF 13 46) rfl rfl (any_of HT_.out (by kernel_rfl)) (fun _ _ _ h => h) (Or.inr ⟨by rfl, rfl⟩) ?_ ?_
              rotate_left
              ·simp only [Act.put, sI, sZ, sS, i64_w, i32_w]
               rfl
              refine pure_ (i := 13) (N := some 118) (v := undef) (a' := ?_) (TF 14 45) rfl rfl (any_of HT_.out (by kernel_rfl)) (fun _ _ _ h => h) (Or.inr ⟨by rfl, rfl⟩) ?_ ?_
              rotate_left
              ·simp only [Act.put, sI, sZ, sS, i64_w, i32_w]
               rfl
              refine pure_ (i := 14) (N := some 119) (v := undef) (a' := ?_) (TF 15 44) rfl rfl (any_of HT_.out (by kernel_rfl)) (fun _ _ _ h => h) (Or.inr ⟨by rfl, rfl⟩) ?_ ?_
              rotate_left
              ·simp only [Act.put, sI, sZ, sS, i64_w, i32_w]
               rfl
              refine pure_ (i := 15) (N := some 120) (v := undef) (a' := ?_) (TF 16 43) rfl rfl (any_of HT_.out (by kernel_rfl)) (fun _ _ _ h => h) (Or.inr ⟨by rfl, rfl⟩) ?_ ?_
              rotate_left
              ·simp only [Act.put, sI, sZ, sS, i64_w, i32_w]
               rfl
              refine pure_ (i := 16) (N := some 121) (v := ?_) (a' := ?_) (TF 17 42) rfl rfl (any_of HT_.out (by kernel_rfl)) (fun _ _ _ h => h) (Or.inl ⟨by rfl, ?_⟩) ?_ ?_
              rotate_left; · intro w'; go_simp; with_reducible rfl
              rotate_left; · simp only [Act.put, sI, sZ, sS, i64_w, i32_w]; rfl
              refine pure_ (i := 17) (N := some 122) (v := ?_) (a' := ?_) (TF 18 41) rfl rfl (any_of HT_.out (by kernel_rfl)) (fun _ _ _ h => h) (Or.inl ⟨by rfl, ?_⟩) ?_ ?_
              rotate_left; · intro w'; go_simp; with_reducible rfl
              rotate_left; · simp only [Act.put, sI, sZ, sS, i64_w, i32_w]; rfl
              refine pure_ (i := 18) (N := some 123) (v := ?_) (a' := ?_) (TF 19 40) rfl rfl (any_of HT_.out (by kernel_rfl)) (fun _ _ _ h => h) (Or.inl ⟨by rfl, ?_⟩) ?_ ?_
              rotate_left; · intro w'; go_simp; with_reducible rfl
              rotate_left; · simp only [Act.put, sI, sZ, sS, i64_w, i32_w]; rfl
              refine pure_ (i := 19) (N := some 124) (v := ?_) (a' := ?_) (TF 20 39) rfl rfl (any_of HT_.out (by kernel_rfl)) (fun _ _ _ h => h) (Or.inl ⟨by rfl, ?_⟩) ?_ ?_
              rotate_left; · intro w'; go_simp; with_reducible rfl
              rotate_left; · simp only [Act.put, sI, sZ, sS, i64_w, i32_w]; rfl
              refine pure_ (i := 20) (N := some 125) (v := ?_) (a' := ?_) (TF 21 38) rfl rfl (any_of HT_.out (by kernel_rfl)) (fun _ _ _ h => h) (Or.inl ⟨by rfl, ?_⟩) ?_ ?_
              rotate_left; · intro w'; go_simp; with_reducible rfl
              rotate_left; · simp only [Act.put, sI, sZ, sS, i64_w, i32_w]; rfl
              refine pure_ (i := 21) (N := some 126) (v := undef) (a' := ?_) (TF 22 37) rfl rfl (any_of HT_.out (by kernel_rfl)) (fun _ _ _ h => h) (Or.inr ⟨by rfl, rfl⟩) ?_ ?_
              rotate_left
              ·simp only [Act.put, sI, sZ, sS, i64_w, i32_w]
               rfl
              refine pure_ (i := 22) (N := some 127) (v := undef) (a' := ?_) (TF 23 36) rfl rfl (any_of HT_.out (by kernel_rfl)) (fun _ _ _ h => h) (Or.inr ⟨by rfl, rfl⟩) ?_ ?_
              rotate_left
              ·simp only [Act.put, sI, sZ, sS, i64_w, i32_w]
               rfl
              refine pure_ (i := 23) (N := some 128) (v := undef) (a' := ?_) (TF 24 35) rfl rfl (any_of HT_.out (by kernel_rfl)) (fun _ _ _ h => h) (Or.inr ⟨by rfl, rfl⟩) ?_ ?_
              rotate_left
              ·simp only [Act.put, sI, sZ, sS, i64_w, i32_w]
               rfl
              refine pure_ (i := 24) (N := some 129) (v := undef) (a' := ?_) (TF 25 34) rfl rfl (any_of HT_.out (by kernel_rfl)) (fun _ _ _ h => h) (Or.inr ⟨by rfl, rfl⟩) ?_ ?_
              rotate_left
              ·simp only [Act.put, sI, sZ, sS, i64_w, i32_w]
               rfl
              refine pure_ (i := 25) (N := some 130) (v := undef) (a' := ?_) (TF 26 33) rfl rfl (any_of HT_.out (by kernel_rfl)) (fun _ _ _ h => h) (Or.inr ⟨by rfl, rfl⟩) ?_ ?_
              rotate_left
              ·simp only [Act.put, sI, sZ, sS, i64_w, i32_w]
               rfl
              refine pure_ (i := 26) (N := some 131) (v := undef) (a' := ?_) (TF 27 32) rfl rfl (any_of HT_.out (by kernel_rfl)) (fun _ _ _ h => h) (Or.inr ⟨by rfl, rfl⟩) ?_ ?_
              rotate_left
              ·simp only [Act.put, sI, sZ, sS, i64_w, i32_w]
               rfl
              refine pure_ (i := 27) (N := some 132) (v := undef) (a' := ?_) (TF 28 31) rfl rfl (any_of HT_.out (by kernel_rfl)) (fun _ _ _ h => h) (Or.inr ⟨by rfl, rfl⟩) ?_ ?_
              rotate_left
              ·simp only [Act.put, sI, sZ, sS, i64_w, i32_w]
               rfl
              refine pure_ (i := 28) (N := some 133) (v := undef) (a' := ?_) (TF 29 30) rfl rfl (any_of HT_.out (by kernel_rfl)) (fun _ _ _ h => h) (Or.inr ⟨by rfl, rfl⟩) ?_ ?_
              rotate_left
              ·simp only [Act.put, sI, sZ, sS, i64_w, i32_w]
               rfl
              refine pure_ (i := 29) (N := some 134) (v := undef) (a' := ?_) (TF 30 29) rfl rfl (any_of HT_.out (by kernel_rfl)) (fun _ _ _ h => h) (Or.inr ⟨by rfl, rfl⟩) ?_ ?_
              rotate_left
              ·simp only [Act.put, sI, sZ, sS, i64_w, i32_w]
               rfl
              refine pure_ (i := 30) (N := some 135) (v := undef) (a' := ?_) (TF 31 28) rfl rfl (any_of HT_.out (by kernel_rfl)) (fun _ _ _ h => h) (Or.inr ⟨by rfl, rfl⟩) ?_ ?_
              rotate_left
              ·simp only [Act.put, sI, sZ, sS, i64_w, i32_w]
               rfl
              refine pure_ (i := 31) (N := some 136) (v := undef) (a' := ?_) (TF 32 27) rfl rfl (any_of HT_.out (by kernel_rfl)) (fun _ _ _ h => h) (Or.inr ⟨by rfl, rfl⟩) ?_ ?_
              rotate_left
              ·simp only [Act.put, sI, sZ, sS, i64_w, i32_w]
               rfl
              refine pure_ (i := 32) (N := some 137) (v := undef) (a' := ?_) (TF 33 26) rfl rfl (any_of HT_.out (by kernel_rfl)) (fun _ _ _ h => h) (Or.inr ⟨by rfl, rfl⟩) ?_ ?_
              rotate_left
              ·simp only [Act.put, sI, sZ, sS, i64_w, i32_w]
               rfl
              refine pure_ (i := 33) (N := some 138) (v := undef) (a' := ?_) (TF 34 25) rfl rfl (any_of HT_.out (by kernel_rfl)) (fun _ _ _ h => h) (Or.inr ⟨by rfl, rfl⟩) ?_ ?_
              rotate_left
              ·simp only [Act.put, sI, sZ, sS, i64_w, i32_w]
               rfl
              refine pure_ (i := 34) (N := some 139) (v := undef) (a' := ?_) (TF 35 24) rfl rfl (any_of HT_.out (by kernel_rfl)) (fun _ _ _ h => h) (Or.inr ⟨by rfl, rfl⟩) ?_ ?_
              rotate_left
              ·simp only [Act.put, sI, sZ, sS, i64_w, i32_w]
               rfl
              refine pure_ (i := 35) (N := some 140) (v := undef) (a' := ?_) (TF 36 23) rfl rfl (any_of HT_.out (by kernel_rfl)) (fun _ _ _ h => h) (Or.inr ⟨by rfl, rfl⟩) ?_ ?_
              rotate_left
              ·simp only [Act.put, sI, sZ, sS, i64_w, i32_w]
               rfl
              refine pure_ (i := 36) (N := some 141) (v := undef) (a' := ?_) (TF 37 22) rfl rfl (any_of HT_.out (by kernel_rfl)) (fun _ _ _ h => h) (Or.inr ⟨by rfl, rfl⟩) ?_ ?_
              rotate_left
              ·simp only [Act.put, sI, sZ, sS, i64_w, i32_w]
               rfl
              refine pure_ (i := 37) (N := some 142) (v := undef) (a' := ?_) (TF 38 21) rfl rfl (any_of HT_.out (by kernel_rfl)) (fun _ _ _ h => h) (Or.inr ⟨by rfl, rfl⟩) ?_ ?_
              rotate_left
              ·simp only [Act.put, sI, sZ, sS, i64_w, i32_w]
               rfl
              refine pure_ (i := 38) (N := some 143) (v := undef) (a' := ?_) (TF 39 20) rfl rfl (any_of HT_.out (by kernel_rfl)) (fun _ _ _ h => h) (Or.inr ⟨by rfl, rfl⟩) ?_ ?_
              rotate_left
              ·simp only [Act.put, sI, sZ, sS, i64_w, i32_w]
               rfl
              refine pure_ (i := 39) (N := some 144) (v := undef) (a' := ?_) (TF 40 19) rfl rfl (any_of HT_.out (by kernel_rfl)) (fun _ _ _ h => h) (Or.inr ⟨by rfl, rfl⟩) ?_ ?_
              rotate_left
              ·simp only [Act.put, sI, sZ, sS, i64_w, i32_w]
               rfl
              refine pure_ (i := 40) (N := some 145) (v := undef) (a' := ?_) (TF 41 18) rfl rfl (any_of HT_.out (by kernel_rfl)) (fun _ _ _ h => h) (Or.inr ⟨by rfl, rfl⟩) ?_ ?_
              rotate_left
              ·simp only [Act.put, sI, sZ, sS, i64_w, i32_w]
               rfl
              refine pure_ (i := 41) (N := some 146) (v := undef) (a' := ?_) (TF 42 17) rfl rfl (any_of HT_.out (by kernel_rfl)) (fun _ _ _ h => h) (Or.inr ⟨by rfl, rfl⟩) ?_ ?_
              rotate_left
              ·simp only [Act.put, sI, sZ, sS, i64_w, i32_w]
               rfl
              refine pure_ (i := 42) (N := some 147) (v := undef) (a' := ?_) (TF 43 16) rfl rfl (any_of HT_.out (by kernel_rfl)) (fun _ _ _ h => h) (Or.inr ⟨by rfl, rfl⟩) ?_ ?_
              rotate_left
              ·simp only [Act.put, sI, sZ, sS, i64_w, i32_w]
               rfl
              refine pure_ (i := 43) (N := some 148) (v := undef) (a' := ?_) (TF 44 15) rfl rfl (any_of HT_.out (by kernel_rfl)) (fun _ _ _ h => h) (Or.inr ⟨by rfl, rfl⟩) ?_ ?_
              rotate_left
              ·simp only [Act.put, sI, sZ, sS, i64_w, i32_w]
               rfl
              refine pure_ (i := 44) (N := some 149) (v := undef) (a' := ?_) (TF 45 14) rfl rfl (any_of HT_.out (by kernel_rfl)) (fun _ _ _ h => h) (Or.inr ⟨by rfl, rfl⟩) ?_ ?_
              rotate_left
              ·simp only [Act.put, sI, sZ, sS, i64_w, i32_w]
               rfl
              refine pure_ (i := 45) (N := some 150) (v := undef) (a' := ?_) (TF 46 13) rfl rfl (any_of HT_.out (by kernel_rfl)) (fun _ _ _ h => h) (Or.inr ⟨by rfl, rfl⟩) ?_ ?_
              rotate_left
              ·simp only [Act.put, sI, sZ, sS, i64_w, i32_w]
               rfl
              refine pure_ (i := 46) (N := some 151) (v := undef) (a' := ?_) (TF 47 12) rfl rfl (any_of HT_.out (by kernel_rfl)) (fun _ _ _ h => h) (Or.inr ⟨by rfl, rfl⟩) ?_ ?_
              rotate_left
              ·simp only [Act.put, sI, sZ, sS, i64_w, i32_w]
               rfl
              refine pure_ (i := 47) (N := some 152) (v := undef) (a' := ?_) (TF 48 11) rfl rfl (any_of HT_.out (by kernel_rfl)) (fun _ _ _ h => h) (Or.inr ⟨by rfl, rfl⟩) ?_ ?_
              rotate_left
              ·simp only [Act.put, sI, sZ, sS, i64_w, i32_w]
               rfl
              refine pure_ (i := 48) (N := some 153) (v := undef) (a' := ?_) (TF 49 10) rfl rfl (any_of HT_.out (by kernel_rfl)) (fun _ _ _ h => h) (Or.inr ⟨by rfl, rfl⟩) ?_ ?_
              rotate_left
              ·simp only [Act.put, sI, sZ, sS, i64_w, i32_w]
               rfl
              refine pure_ (i := 49) (N := some 154) (v := undef) (a' := ?_) (TF 50 9) rfl rfl (any_of HT_.out (by kernel_rfl)) (fun _ _ _ h => h) (Or.inr ⟨by rfl, rfl⟩) ?_ ?_
              rotate_left
              ·simp only [Act.put, sI, sZ, sS, i64_w, i32_w]
               rfl
              refine pure_ (i := 50) (N := some 155) (v := undef) (a' := ?_) (TF 51 8) rfl rfl (any_of HT_.out (by kernel_rfl)) (fun _ _ _ h => h) (Or.inr ⟨by rfl, rfl⟩) ?_ ?_
              rotate_left
              ·simp only [Act.put, sI, sZ, sS, i64_w, i32_w]
               rfl
              refine pure_ (i := 51) (N := some 156) (v := undef) (a' := ?_) (TF 52 7) rfl rfl (any_of HT_.out (by kernel_rfl)) (fun _ _ _ h => h) (Or.inr ⟨by rfl, rfl⟩) ?_ ?_
              rotate_left
              ·simp only [Act.put, sI, sZ, sS, i64_w, i32_w]
               rfl
              refine pure_ (i := 52) (N := some 157) (v := undef) (a' := ?_) (TF 53 6) rfl rfl (any_of HT_.out (by kernel_rfl)) (fun _ _ _ h => h) (Or.inr ⟨by rfl, rfl⟩) ?_ ?_
              rotate_left
              ·simp only [Act.put, sI, sZ, sS, i64_w, i32_w]
               rfl
              refine pure_ (i := 53) (N := some 158) (v := undef) (a' := ?_) (TF 54 5) rfl rfl (any_of HT_.out (by kernel_rfl)) (fun _ _ _ h => h) (Or.inr ⟨by rfl, rfl⟩) ?_ ?_
              rotate_left
              ·simp only [Act.put, sI, sZ, sS, i64_w, i32_w]
               rfl
              refine pure_ (i := 54) (N := some 159) (v := undef) (a' := ?_) (TF 55 4) rfl rfl (any_of HT_.out (by kernel_rfl)) (fun _ _ _ h => h) (Or.inr ⟨by rfl, rfl⟩) ?_ ?_
              rotate_left
              ·simp only [Act.put, sI, sZ, sS, i64_w, i32_w]
               rfl
              refine pure_ (i := 55) (N := some 160) (v := undef) (a' := ?_) (TF 56 3) rfl rfl (any_of HT_.out (by kernel_rfl)) (fun _ _ _ h => h) (Or.inr ⟨by rfl, rfl⟩) ?_ ?_
              rotate_left
              ·simp only [Act.put, sI, sZ, sS, i64_w, i32_w]
               rfl
              refine pure_ (i := 56) (N := some 161) (v := undef) (a' := ?_) (TF 57 2) rfl rfl (any_of HT_.out (by kernel_rfl)) (fun _ _ _ h => h) (Or.inr ⟨by rfl, rfl⟩) ?_ ?_
              rotate_left
              ·simp only [Act.put, sI, sZ, sS, i64_w, i32_w]
               rfl
              refine pure_ (i := 57) (N := some 162) (v := ?_) (a' := ?_) (TF 58 1) rfl rfl (any_of HT_.out (by kernel_rfl)) (fun _ _ _ h => h) (Or.inl ⟨by rfl, ?_⟩) ?_ ?_
              rotate_left; · intro w'; go_simp; with_reducible rfl
              rotate_left; · simp only [Act.put, sI, sZ, sS, i64_w, i32_w]; rfl
              refine pure_ (i := 58) (N := some 163) (v := ?_) (a' := ?_) (TF 59 0) rfl rfl (any_of HT_.out (by kernel_rfl)) (fun _ _ _ h => h) (Or.inl ⟨by rfl, ?_⟩) ?_ ?_
              rotate_left; · intro w'; go_simp; with_reducible rfl
              rotate_left; · simp only [Act.put, sI, sZ, sS, i64_w, i32_w]; rfl
              refine done_ (done_of HT_.out (by kernel_rfl)) ?_
              try go_wp2
              go_meet
              case rel => exact ⟨_, (false), (by first | rfl | (simp; done) | (simp [*]; done)), H', ⟨by have := HJ6.out; have := HK2.out; have := HJ53.out; first | omega | exact Nat.le_refl _⟩, ⟨by apply Kd.N_to; exact Kd.N_mono HO_346001.out (fun _ hk => ⟨hk.2.2.1, ⟨hk.2.2.2.1, hk.2.2.2.2⟩⟩)⟩, ⟨by apply Kd.N_to; exact Kd.N_mono HO370.out (fun _ hk => ⟨hk.2.2.1, ⟨hk.2.2.2.1, hk.2.2.2.2⟩⟩)⟩, ⟨by refine bT ?_; exact BK345.out⟩, ⟨by refine bT ?_; exact BK373.out⟩, ⟨bA⟩⟩
           case rest =>
            clear HC65
            try clear p2
            try clear c9
            try clear c90
            try clear c90b0
            try clear c92
            try clear c93
            try clear c94
            try clear c94b0
            try clear c94b1
            try clear c95
            try clear c96
            try clear c96b0
            try clear c96b1
            try clear c97
            try clear c97b0
            try clear c97b1
            obtain ⟨kq, x163_64, rfl, HA, HJ64, HO_346001, HO_374001, BK345, BK373, HB⟩ := hcut
            cases kq with
            | zero => exact absurd HA.out (by simp [l13_JournalTorn.j4])
            | succ kj64 =>
             have H := HA.out
             clear HA
             simp only [l13_JournalTorn.j4] at H
             by_cases c104 : x163_64 = true
             ·subst c104
              have H1 : (none) = some r := by rw [if_pos rfl] at H; exact H
              clear H
              have H := H1
              clear H1
              exact absurd H (by simp)
             ·replace c104 := Bool.eq_false_iff.mpr c104
              subst c104
              have H1 : ((journal_Add.f kj64 x346000_2 x346001_2 x346002_2 (([(⟨3, 1, 0, 0, (⟨#[]⟩ : ByteArray)⟩ : S24)] : List (S24)))).bind fun bt383 => (if 0 ≤ (x346002_2.size : Int) then (if (x346002_2.size : Int) ≤ (bt383.2.2.1.size : Int) then (if 0 ≤ (mx 0 (mn a3 (wrap64 (((bt383.2.2.1.extract x346002_2.size bt383.2.2.1.size).size : Int) - 1)))) then (if (mx 0 (mn a3 (wrap64 (((bt383.2.2.1.extract x346002_2.size bt383.2.2.1.size).size : Int) - 1)))) ≤ ((bt383.2.2.1.extract x346002_2.size bt383.2.2.1.size).size : Int) then (if x346002_2.size + ((bt383.2.2.1.extract x346002_2.size bt383.2.2.1.size).extract 0 ((mx 0 (mn a3 (wrap64 (((bt383.2.2.1.extract x346002_2.size bt383.2.2.1.size).size : Int) - 1)))) : Int).toNat).size ≤ 9223372036854775807 then ((journal_Read.f kj64 (x346002_2 ++ ((bt383.2.2.1.extract x346002_2.size bt383.2.2.1.size).extract 0 ((mx 0 (mn a3 (wrap64 (((bt383.2.2.1.extract x346002_2.size bt383.2.2.1.size).size : Int) - 1)))) : Int).toNat))).bind fun bt390 => (if bt390.2.2.2 = (x346002_2.size : Int) then (if bt390.1 = x346000_2 then (some ((bt390.2.1.length : Int) == (x346001_2.length : Int))) else (none)) else (none))) else (none)) else (none)) else (none)) else (none)) else (none))) = some r := by rw [if_neg (show ¬ (false = true) by decide)] at H; exact H
              clear H
              have H := H1
              clear H1
              obtain ⟨y380, hy380⟩ : ∃ y_ : List (S24), y_ = (([(⟨3, 1, 0, 0, (⟨#[]⟩ : ByteArray)⟩ : S24)] : List (S24))) := ⟨_, rfl⟩
              replace H : ((journal_Add.f kj64 x346000_2 x346001_2 x346002_2 y380).bind fun bt383 => (if 0 ≤ (x346002_2.size : Int) then (if (x346002_2.size : Int) ≤ (bt383.2.2.1.size : Int) then (if 0 ≤ (mx 0 (mn a3 (wrap64 (((bt383.2.2.1.extract x346002_2.size bt383.2.2.1.size).size : Int) - 1)))) then (if (mx 0 (mn a3 (wrap64 (((bt383.2.2.1.extract x346002_2.size bt383.2.2.1.size).size : Int) - 1)))) ≤ ((bt383.2.2.1.extract x346002_2.size bt383.2.2.1.size).size : Int) then (if x346002_2.size + ((bt383.2.2.1.extract x346002_2.size bt383.2.2.1.size).extract 0 ((mx 0 (mn a3 (wrap64 (((bt383.2.2.1.extract x346002_2.size bt383.2.2.1.size).size : Int) - 1)))) : Int).toNat).size ≤ 9223372036854775807 then ((journal_Read.f kj64 (x346002_2 ++ ((bt383.2.2.1.extract x346002_2.size bt383.2.2.1.size).extract 0 ((mx 0 (mn a3 (wrap64 (((bt383.2.2.1.extract x346002_2.size bt383.2.2.1.size).size : Int) - 1)))) : Int).toNat))).bind fun bt390 => (if bt390.2.2.2 = (x346002_2.size : Int) then (if bt390.1 = x346000_2 then (some ((bt390.2.1.length : Int) == (x346001_2.length : Int))) else (none)) else (none))) else (none)) else (none)) else (none)) else (none)) else (none))) = some r := by first | (rw [hy380]; with_reducible exact H) | (have H2_ := (Option.bind_some _ _).symm.trans H; rw [hy380]; with_reducible exact H2_) | (have H2_ := (Option.bind_some _ _).symm.trans H; with_reducible exact H2_) | with_reducible exact H | (rw [hy380]; exact H) | exact H
              have Ny380 := Ax.mk hy380
              clear hy380
              replace H := Option.bind_eq_some_iff.mp H
              obtain ⟨⟨t383, t384, t387, t388⟩, A1050, H⟩ := H
              replace H : (if 0 ≤ (x346002_2.size : Int) then (if (x346002_2.size : Int) ≤ (t387.size : Int) then (if 0 ≤ (mx 0 (mn a3 (wrap64 (((t387.extract x346002_2.size t387.size).size : Int) - 1)))) then (if (mx 0 (mn a3 (wrap64 (((t387.extract x346002_2.size t387.size).size : Int) - 1)))) ≤ ((t387.extract x346002_2.size t387.size).size : Int) then (if x346002_2.size + ((t387.extract x346002_2.size t387.size).extract 0 ((mx 0 (mn a3 (wrap64 (((t387.extract x346002_2.size t387.size).size : Int) - 1)))) : Int).toNat).size ≤ 9223372036854775807 then ((journal_Read.f kj64 (x346002_2 ++ ((t387.extract x346002_2.size t387.size).extract 0 ((mx 0 (mn a3 (wrap64 (((t387.extract x346002_2.size t387.size).size : Int) - 1)))) : Int).toNat))).bind fun bt390 => (if bt390.2.2.2 = (x346002_2.size : Int) then (if bt390.1 = x346000_2 then (some ((bt390.2.1.length : Int) == (x346001_2.length : Int))) else (none)) else (none))) else (none)) else (none)) else (none)) else (none)) else (none)) = some r := H
              have A105 := Ax.mk A1050
              clear A1050
              by_cases c106 : 0 ≤ (x346002_2.size : Int)
              ·rw [if_pos c106] at H
               have c106b0 := eq_true c106
               have c106b1 : decide (0 ≤ (x346002_2.size : Int)) = true := decide_eq_true c106
               clear c106
               by_cases c107 : (x346002_2.size : Int) ≤ (t387.size : Int)
               ·rw [if_pos c107] at H
                have c107b0 := eq_true c107
                have c107b1 : decide ((x346002_2.size : Int) ≤ (t387.size : Int)) = true := decide_eq_true c107
                clear c107
                obtain ⟨ji108, hji108⟩ : ∃ j_ : Int, (mn a3 (wrap64 (((t387.extract x346002_2.size t387.size).size : Int) - 1))) = j_ := ⟨_, rfl⟩
                replace H : (if 0 ≤ (mx 0 (ji108)) then (if (mx 0 (ji108)) ≤ ((t387.extract x346002_2.size t387.size).size : Int) then (if x346002_2.size + ((t387.extract x346002_2.size t387.size).extract 0 ((mx 0 (ji108)) : Int).toNat).size ≤ 9223372036854775807 then ((journal_Read.f kj64 (x346002_2 ++ ((t387.extract x346002_2.size t387.size).extract 0 ((mx 0 (ji108)) : Int).toNat))).bind fun bt390 => (if bt390.2.2.2 = (x346002_2.size : Int) then (if bt390.1 = x346000_2 then (some ((bt390.2.1.length : Int) == (x346001_2.length : Int))) else (none)) else (none))) else (none)) else (none)) else (none)) = some r := by first | (rw [hji108] at H; exact H) | (simp only [hji108] at H ⊢; exact H)
                (try rw [hji108] at A105)
                have hji108_ : (if (wrap64 (((t387.extract x346002_2.size t387.size).size : Int) - 1)) < a3 then (wrap64 (((t387.extract x346002_2.size t387.size).size : Int) - 1)) else a3) = ji108 := hji108
                (try simp only [ByteArray.size_extract, Nat.min_self, Nat.sub_zero] at hji108_)
                obtain ⟨ji109, hji109⟩ : ∃ j_ : Int, (mx 0 (ji108)) = j_ := ⟨_, rfl⟩
                replace H : (if 0 ≤ (ji109) then (if (ji109) ≤ ((t387.extract x346002_2.size t387.size).size : Int) then (if x346002_2.size + ((t387.extract x346002_2.size t387.size).extract 0 ((ji109) : Int).toNat).size ≤ 9223372036854775807 then ((journal_Read.f kj64 (x346002_2 ++ ((t387.extract x346002_2.size t387.size).extract 0 ((ji109) : Int).toNat))).bind fun bt390 => (if bt390.2.2.2 = (x346002_2.size : Int) then (if bt390.1 = x346000_2 then (some ((bt390.2.1.length : Int) == (x346001_2.length : Int))) else (none)) else (none))) else (none)) else (none)) else (none)) = some r := by first | (rw [hji109] at H; exact H) | (simp only [hji109] at H ⊢; exact H)
                (try rw [hji109] at A105)
                have hji109_ : (if 0 < (ji108) then (ji108) else 0) = ji109 := hji109
                by_cases c110 : 0 ≤ (ji109)
                ·rw [if_pos c110] at H
                 have c110b0 := eq_true c110
                 have c110b1 : decide (0 ≤ (ji109)) = true := decide_eq_true c110
                 clear c110
                 by_cases c111 : (ji109) ≤ ((t387.extract x346002_2.size t387.size).size : Int)
                 ·rw [if_pos c111] at H
                  have c111b0 := eq_true c111
                  have c111b1 : decide ((ji109) ≤ ((t387.extract x346002_2.size t387.size).size : Int)) = true := decide_eq_true c111
                  (try simp only [ByteArray.size_extract, Nat.min_self, Nat.sub_zero] at c111b0 c111b1)
                  clear c111
                  by_cases c112 : x346002_2.size + ((t387.extract x346002_2.size t387.size).extract 0 ((ji109) : Int).toNat).size ≤ 9223372036854775807
                  ·rw [if_pos c112] at H
                   have c112b0 := eq_true c112
                   have c112b1 : decide (x346002_2.size + ((t387.extract x346002_2.size t387.size).extract 0 ((ji109) : Int).toNat).size ≤ 9223372036854775807) = true := decide_eq_true c112
                   try have c112b2 : (9223372036854775807 < x346002_2.size + ((t387.extract x346002_2.size t387.size).extract 0 ((ji109) : Int).toNat).size) = False := eq_false (Nat.not_lt.2 c112)
                   (try rw [show ((t387.extract x346002_2.size t387.size).extract 0 ((ji109) : Int).toNat).size = ((ji109) : Int).toNat by (have h1_ := of_decide_eq_true c111b1; rw [ByteArray.size_extract, ByteArray.size_extract]; omega)] at c112 c112b0 c112b1 c112b2)
                   replace H := Option.bind_eq_some_iff.mp H
                   obtain ⟨⟨t390, t391, t394, t395⟩, A1130, H⟩ := H
                   replace H : (if t395 = (x346002_2.size : Int) then (if t390 = x346000_2 then (some ((t391.length : Int) == (x346001_2.length : Int))) else (none)) else (none)) = some r := H
                   have A113 := Ax.mk A1130
                   clear A1130
                   by_cases c114 : t395 = (x346002_2.size : Int)
                   ·rw [if_pos c114] at H
                    have c114b0 : (t395 == (x346002_2.size : Int)) = true := beq_iff_eq.mpr c114
                    have c114b1 : (t395 != (x346002_2.size : Int)) = false := bne_eq_false_iff_eq.mpr c114
                    clear c114
                    by_cases c115 : t390 = x346000_2
                    ·rw [if_pos c115] at H
                     have c115b0 : (t390 == x346000_2) = true := beq_iff_eq.mpr c115
                     have c115b1 : (t390 != x346000_2) = false := bne_eq_false_iff_eq.mpr c115
                     clear c115
                     obtain rfl := Option.some.inj H
                     have hnb116 := NB345_373.out
                     have hnc116 := NB373_345.out
                     have hcz117_0 : wc.cell? ⟨gb345, 0, none⟩ = some (.int .u64 x346000_2) := (bC BK345.out 0).trans rfl
                     have hcz117_1 : wc.cell? ⟨gb345, 1, none⟩ = some (u346001) := (bC BK345.out 1).trans rfl
                     have hcz117_2 : wc.cell? ⟨gb345, 2, none⟩ = some (.string x346002_2) := (bC BK345.out 2).trans rfl
                     have hfz117_0 := bF BK345.out 0
                     have hfz117_1 := bF BK345.out 1
                     have hfz117_2 := bF BK345.out 2
                     try go_wp2_with (first | ((with_reducible refine gate_dst (N := 167) rfl ?_); (try (refine gate_guard (by rfl) ?_; dsimp only)); refine Kd.R_lit k24 _ 24 ?hg (N := 167) ?hd (xs := ([(⟨3, 1, 0, 0, (⟨#[]⟩ : ByteArray)⟩ : S24)] : List (S24))) (inner := [.int .i64 3, .int .i64 1, .int .i64 0, .int .u64 0, .string (⟨#[]⟩ : ByteArray)]) (ok := fun _ => True) (okp := fun _ => True) ?hr ?hp (fun _ hk => hk) trivial (Below.refl _ _) (Nat.le_refl _) (by simp) ?_; (case hd => rfl); (case hg => rfl); (case hr => first | (go_simp; done) | (go_simp; rfl)); (case hp => exact (Reps.c5 (show Kd.M k24 _ _ _ (⟨3, 1, 0, 0, (⟨#[]⟩ : ByteArray)⟩ : S24) [.int .i64 3, .int .i64 1, .int .i64 0, .int .u64 0, .string (⟨#[]⟩ : ByteArray)] from (k24_mkM _ _ _ (⟨3, 1, 0, 0, (⟨#[]⟩ : ByteArray)⟩ : S24) )) (Reps.none _ _))); intro v381 w118 ho119 hb hg_ hnew_; clear hg_ hnew_; (first | rw [← Ny380.out] at ho119 | (simp only [Int.reduceToNat] at ho119; rw [← Ny380.out] at ho119)); have n0_ := Ax.mk (Kd.N_elder' (by exact Kd.N_to HO_346001.out) (Kd.R_base ho119) hb); have n1_ := Ax.mk (Kd.N_elder' (by exact Kd.N_to HO_374001.out) (Kd.R_base ho119) hb); have n2_ := Ax.mk (Kd.R_lower ho119 (bS bA)); have n3_ := Ax.mk (bB (bT BK345.out) hb); have n4_ := Ax.mk (bB (bT BK373.out) hb); have n5_ := Ax.mk (bP bA hb); clear HO_346001; clear HO_374001; clear BK345; clear BK373; clear HB; have HO_346001 := n0_; have HO_374001 := n1_; have HO382 := n2_; have BK345 := n3_; have BK373 := n4_; have HB := n5_; clear n0_ n1_ n2_ n3_ n4_ n5_; clear hb ho119; obtain ⟨Ao120, co120, eo120⟩ := Kd.N_slice HO_346001.out; subst eo120; obtain ⟨Ao121, co121, eo121⟩ := Kd.R_slice HO382.out; subst eo121) | ((with_reducible refine gate_callee (f := 39) rfl ?_); refine goesL_ (some 168) rfl rfl Tryd.func39 (by kernel_rfl) rfl #[.agg #[.int .u64 x346000_2, .slice Ao120 x346001_2.length co120, .string x346002_2], .slice Ao121 y380.length co121] rfl (by (try simp only [List.map_toArray, List.map_cons, List.map_nil]); first | done | rfl | (simp only [List.length_drop, List.length_take]; rfl) | (rw [wrap_sum2 (by assumption)]; rfl)) ?_; (with_reducible refine (journal_Add.calls kj64 x346000_2 (fun k_ => ((some k_ ≠ (.slice Ao71 t368.length co71 : Value).ownBlock ∧ (k_ ≠ gb345 ∧ k_ ≠ gb373)) ∧ some k_ ≠ (.slice Ao121 y380.length co121 : Value).ownBlock)) _ _ x346001_2 x346002_2 _ _ y380 t383 t384 t387 t388 _ ?side1 ?side2 ?side3 A105.out (HT.below bA)).mono ?_); (case side1 => exact Kd.N_V (HO_346001.out)); (case side2 => repeat (first | exact (Kd.R_reads' HO382.out).2.2 | (with_reducible refine Kd.C_alloc ?_ _) | (with_reducible refine Kd.C_drewN ?_ _) | (with_reducible refine Kd.C_drew ?_))); (case side3 => exact (Kd.R_reads' HO382.out).2.1); rintro e w122 ⟨v385, rfl, ho0, hb⟩; refine ⟨_, rfl, ?_⟩; have n0_ := Ax.mk (Kd.N_elder' (by exact Kd.N_to HO_346001.out) (Kd.N_base ho0) hb); have n1_ := Ax.mk (Kd.N_elder' (by exact Kd.N_to HO_374001.out) (Kd.N_base ho0) hb); have n2_ := Ax.mk (Kd.R_below (by exact Kd.R_to HO382.out) hb); have n3_ := Ax.mk (Kd.N_lower (Kd.N_mono (ok' := fun k_ => some k_ ≠ (.slice Ao71 t368.length co71 : Value).ownBlock ∧ some k_ ≠ (.slice Ao121 y380.length co121 : Value).ownBlock ∧ k_ ≠ gb345 ∧ k_ ≠ gb373) ho0 (fun k_ hk_ => ⟨Or.elim hk_ (fun hs_ => hs_.1.1) (fun hn_ => (Kd.fresh' (Kd.N_lt (by exact Kd.N_to HO_374001.out)) k_ hn_)), Or.elim hk_ (fun hs_ => hs_.2) (fun hn_ => (Kd.fresh' (Kd.R_lt (by exact Kd.R_to HO382.out)) k_ hn_)), Or.elim hk_ (fun hs_ => hs_.1.2.1) (fun hn_ => (Kd.freshB (g := gb345) (o := .cells #[.int .u64 x346000_2, .slice Ao120 x346001_2.length co120, .string x346002_2] 66 (0, 0)) (bT BK345.out) k_ hn_)), Or.elim hk_ (fun hs_ => hs_.1.2.2) (fun hn_ => (Kd.freshB (g := gb373) (o := .cells #[.int .u64 t367, .slice Ao71 t368.length co71, .string t371] 66 (0, 0)) (bT BK373.out) k_ hn_))⟩)) (bS bA)); have n4_ := Ax.mk (bB (bT BK345.out) hb); have n5_ := Ax.mk (bB (bT BK373.out) hb); have n6_ := Ax.mk (bP bA hb); clear HO_346001; clear HO_374001; clear HO382; clear BK345; clear BK373; clear HB; have HO_346001 := n0_; have HO_374001 := n1_; have HO382 := n2_; have HO386 := n3_; have BK345 := n4_; have BK373 := n5_; have HB := n6_; clear n0_ n1_ n2_ n3_ n4_ n5_ n6_; (try clear hb); (try clear hb2); (try clear hk); (try clear hi); (try clear ho0)) | ((with_reducible refine gate_dst (N := 21) rfl ?_); (try (refine gate_guard (by rfl) ?_; dsimp only)); refine box_event ?hg (N := 21) ?hd (cs := #[.int .u64 0, .slice none 0 0, .string (⟨#[]⟩ : ByteArray)]) (t := 66) ?hr ?_; (case hd => rfl); (case hg => rfl); (case hr => first | (go_simp; done) | (go_simp; rfl)); intro gb389 hg w123 hbox hb; have n0_ := Ax.mk (Kd.N_below (Kd.N_elderB (by exact Kd.N_to HO_346001.out) gb389 (Nat.le_of_eq hg.symm)) hb); have n1_ := Ax.mk (Kd.N_below (Kd.N_elderB (by exact Kd.N_to HO_374001.out) gb389 (Nat.le_of_eq hg.symm)) hb); have n2_ := Ax.mk (Kd.R_below (by exact Kd.R_to HO382.out) hb); have n3_ := Ax.mk (Kd.N_below (Kd.N_elderB (by exact Kd.N_to HO386.out) gb389 (Nat.le_of_eq hg.symm)) hb); have n4_ := Ax.mk (bB (bT BK345.out) hb); have n5_ := Ax.mk (bB (bT BK373.out) hb); have n6_ := Ax.mk (bP bA hb); have n7_ := Ax.mk (hbox); have n8_ := Ax.mk ((ge_new hg : w.heap.size ≤ gb389)); have n9_ := n8_; have n10_ := Ax.mk ((ne_lt hg BK345.out : gb345 ≠ gb389)); have n11_ := Ax.mk ((ne_gt hg BK345.out : gb389 ≠ gb345)); have n12_ := Ax.mk ((ne_lt hg BK373.out : gb373 ≠ gb389)); have n13_ := Ax.mk ((ne_gt hg BK373.out : gb389 ≠ gb373)); clear HO_346001; clear HO_374001; clear HO382; clear HO386; clear BK345; clear BK373; clear HB; have HO_346001 := n0_; have HO_374001 := n1_; have HO382 := n2_; have HO386 := n3_; have BK345 := n4_; have BK373 := n5_; have HB := n6_; have BK389 := n7_; have GW389 := n8_; have GE389 := n9_; have NB345_389 := n10_; have NB389_345 := n11_; have NB373_389 := n12_; have NB389_373 := n13_; clear n0_ n1_ n2_ n3_ n4_ n5_ n6_ n7_ n8_ n9_ n10_ n11_ n12_ n13_; clear hb hbox hg; have hnb124 := NB389_345.out; have hnc124 := NB345_389.out; have hnb125 := NB389_373.out; have hnc125 := NB373_389.out; have hcz126_0 : w123.cell? ⟨gb389, 0, none⟩ = some (.int .u64 0) := (bC BK389.out 0).trans rfl; have hcz126_1 : w123.cell? ⟨gb389, 1, none⟩ = some (.slice none 0 0) := (bC BK389.out 1).trans rfl; have hcz126_2 : w123.cell? ⟨gb389, 2, none⟩ = some (.string (⟨#[]⟩ : ByteArray)) := (bC BK389.out 2).trans rfl; have hfz126_0 := bF BK389.out 0; have hfz126_1 := bF BK389.out 1; have hfz126_2 := bF BK389.out 2; obtain ⟨Ao127, co127, eo127⟩ := Kd.N_slice HO386.out; subst eo127; have hcz128_0 : w123.cell? ⟨gb345, 0, none⟩ = some (.int .u64 x346000_2) := (bC BK345.out 0).trans rfl; have hcz128_1 : w123.cell? ⟨gb345, 1, none⟩ = some (.slice Ao120 x346001_2.length co120) := (bC BK345.out 1).trans rfl; have hcz128_2 : w123.cell? ⟨gb345, 2, none⟩ = some (.string x346002_2) := (bC BK345.out 2).trans rfl; have hfz128_0 := bF BK345.out 0; have hfz128_1 := bF BK345.out 1; have hfz128_2 := bF BK345.out 2))
                     have n0_ : Ax (Kd.N k44 44 (((w123.setCell ⟨gb389, 0, none⟩ (.int .u64 t383)).setCell ⟨gb389, 1, none⟩ (.slice Ao127 t384.length co127)).setCell ⟨gb389, 2, none⟩ (.string t387)) w.heap.size (fun k_ => some k_ ≠ (.slice Ao71 t368.length co71 : Value).ownBlock ∧ some k_ ≠ (.slice Ao121 y380.length co121 : Value).ownBlock ∧ some k_ ≠ (.slice Ao127 t384.length co127 : Value).ownBlock ∧ k_ ≠ gb345 ∧ k_ ≠ gb373 ∧ k_ ≠ gb389) (.slice Ao120 x346001_2.length co120) x346001_2) := ⟨by apply Kd.N_to; exact Kd.N_mono (Kd.N_far (p := ⟨gb389, 2, none⟩) (Kd.N_far (p := ⟨gb389, 1, none⟩) (Kd.N_far (p := ⟨gb389, 0, none⟩) (Kd.N_mono HO_346001.out (fun k_ hk => (⟨hk, hk.2⟩ : _ ∧ k_ ≠ gb389))) (fun _ hk => hk.2) (.int .u64 t383)) (fun _ hk => hk.2) (.slice Ao127 t384.length co127)) (fun _ hk => hk.2) (.string t387)) (fun _ hk => ⟨hk.1.1.1.1.1, ⟨hk.1.1.1.2, ⟨hk.1.1.2, ⟨hk.1.1.1.1.2.1, ⟨hk.1.1.1.1.2.2, hk.1.2⟩⟩⟩⟩⟩)⟩
                     have n1_ : Ax (Kd.N k44 44 (((w123.setCell ⟨gb389, 0, none⟩ (.int .u64 t383)).setCell ⟨gb389, 1, none⟩ (.slice Ao127 t384.length co127)).setCell ⟨gb389, 2, none⟩ (.string t387)) w.heap.size (fun k_ => some k_ ≠ (.slice Ao120 x346001_2.length co120 : Value).ownBlock ∧ some k_ ≠ (.slice Ao121 y380.length co121 : Value).ownBlock ∧ some k_ ≠ (.slice Ao127 t384.length co127 : Value).ownBlock ∧ k_ ≠ gb345 ∧ k_ ≠ gb373 ∧ k_ ≠ gb389) (.slice Ao71 t368.length co71) t368) := ⟨by apply Kd.N_to; exact Kd.N_mono (Kd.N_far (p := ⟨gb389, 2, none⟩) (Kd.N_far (p := ⟨gb389, 1, none⟩) (Kd.N_far (p := ⟨gb389, 0, none⟩) (Kd.N_mono HO_374001.out (fun k_ hk => (⟨hk, hk.2⟩ : _ ∧ k_ ≠ gb389))) (fun _ hk => hk.2) (.int .u64 t383)) (fun _ hk => hk.2) (.slice Ao127 t384.length co127)) (fun _ hk => hk.2) (.string t387)) (fun _ hk => ⟨hk.1.1.1.1.1, ⟨hk.1.1.1.2, ⟨hk.1.1.2, ⟨hk.1.1.1.1.2.1, ⟨hk.1.1.1.1.2.2, hk.1.2⟩⟩⟩⟩⟩)⟩
                     have n2_ : Ax (Kd.R k24 24 (((w123.setCell ⟨gb389, 0, none⟩ (.int .u64 t383)).setCell ⟨gb389, 1, none⟩ (.slice Ao127 t384.length co127)).setCell ⟨gb389, 2, none⟩ (.string t387)) w.heap.size (fun _ => True) (.slice Ao121 y380.length co121) y380) := ⟨by apply Kd.R_to; exact Kd.R_mono (Kd.R_far (p := ⟨gb389, 2, none⟩) (Kd.R_far (p := ⟨gb389, 1, none⟩) (Kd.R_far (p := ⟨gb389, 0, none⟩) (Kd.R_types HO382.out BK389.out (by decide)) (fun _ hk => hk.2) (.int .u64 t383)) (fun _ hk => hk.2) (.slice Ao127 t384.length co127)) (fun _ hk => hk.2) (.string t387)) (fun _ hk => trivial)⟩
                     have n3_ : Ax (Kd.N k44 44 (((w123.setCell ⟨gb389, 0, none⟩ (.int .u64 t383)).setCell ⟨gb389, 1, none⟩ (.slice Ao127 t384.length co127)).setCell ⟨gb389, 2, none⟩ (.string t387)) w.heap.size (fun k_ => some k_ ≠ (.slice Ao71 t368.length co71 : Value).ownBlock ∧ some k_ ≠ (.slice Ao121 y380.length co121 : Value).ownBlock ∧ k_ ≠ gb345 ∧ k_ ≠ gb373 ∧ k_ ≠ gb389) (.slice Ao127 t384.length co127) t384) := ⟨by apply Kd.N_to; exact Kd.N_mono (Kd.N_far (p := ⟨gb389, 2, none⟩) (Kd.N_far (p := ⟨gb389, 1, none⟩) (Kd.N_far (p := ⟨gb389, 0, none⟩) (Kd.N_mono HO386.out (fun k_ hk => (⟨hk, hk.2⟩ : _ ∧ k_ ≠ gb389))) (fun _ hk => hk.2) (.int .u64 t383)) (fun _ hk => hk.2) (.slice Ao127 t384.length co127)) (fun _ hk => hk.2) (.string t387)) (fun _ hk => ⟨hk.1.1.1, ⟨hk.1.1.2.1, ⟨hk.1.1.2.2.1, ⟨hk.1.1.2.2.2, hk.1.2⟩⟩⟩⟩)⟩
                     have n4_ : Ax ((((w123.setCell ⟨gb389, 0, none⟩ (.int .u64 t383)).setCell ⟨gb389, 1, none⟩ (.slice Ao127 t384.length co127)).setCell ⟨gb389, 2, none⟩ (.string t387)).heap[gb345]? = some (.cells #[.int .u64 x346000_2, .slice Ao120 x346001_2.length co120, .string x346002_2] 66 (0, 0))) := ⟨by refine bT ?_; refine bR ?_ NB345_389.out _; refine bT ?_; refine bR ?_ NB345_389.out _; refine bT ?_; refine bR ?_ NB345_389.out _; refine bT ?_; exact BK345.out⟩
                     have n5_ : Ax ((((w123.setCell ⟨gb389, 0, none⟩ (.int .u64 t383)).setCell ⟨gb389, 1, none⟩ (.slice Ao127 t384.length co127)).setCell ⟨gb389, 2, none⟩ (.string t387)).heap[gb373]? = some (.cells #[.int .u64 t367, .slice Ao71 t368.length co71, .string t371] 66 (0, 0))) := ⟨by refine bT ?_; refine bR ?_ NB373_389.out _; refine bT ?_; refine bR ?_ NB373_389.out _; refine bT ?_; refine bR ?_ NB373_389.out _; refine bT ?_; exact BK373.out⟩
                     have n6_ : Ax ((((w123.setCell ⟨gb389, 0, none⟩ (.int .u64 t383)).setCell ⟨gb389, 1, none⟩ (.slice Ao127 t384.length co127)).setCell ⟨gb389, 2, none⟩ (.string t387)).heap[gb389]? = some (.cells #[.int .u64 t383, .slice Ao127 t384.length co127, .string t387] 66 (0, 0))) := ⟨by refine bT ?_; refine bU (cs := #[.int .u64 t383, .slice Ao127 t384.length co127, .string (⟨#[]⟩ : ByteArray)]) ?_ 2 _ rfl; refine bT ?_; refine bU (cs := #[.int .u64 t383, .slice none 0 0, .string (⟨#[]⟩ : ByteArray)]) ?_ 1 _ rfl; refine bT ?_; refine bU (cs := #[.int .u64 0, .slice none 0 0, .string (⟨#[]⟩ : ByteArray)]) ?_ 0 _ rfl; refine bT ?_; exact BK389.out⟩
                     have n7_ : Ax (Below w.heap.size w (((w123.setCell ⟨gb389, 0, none⟩ (.int .u64 t383)).setCell ⟨gb389, 1, none⟩ (.slice Ao127 t384.length co127)).setCell ⟨gb389, 2, none⟩ (.string t387))) := ⟨bA⟩
                     (try clear HO_346001)
                     (try clear HO_374001)
                     (try clear HO382)
                     (try clear HO386)
                     (try clear BK345)
                     (try clear BK373)
                     (try clear BK389)
                     (try clear HB)
                     generalize (((w123.setCell ⟨gb389, 0, none⟩ (.int .u64 t383)).setCell ⟨gb389, 1, none⟩ (.slice Ao127 t384.length co127)).setCell ⟨gb389, 2, none⟩ (.string t387)) = w129 at n0_ n1_ n2_ n3_ n4_ n5_ n6_ n7_ ⊢
                     have HO_346001 := n0_
                     have HO_374001 := n1_
                     have HO382 := n2_
                     have HO386 := n3_
                     have BK345 := n4_
                     have BK373 := n5_
                     have BK389 := n6_
                     have HB := n7_
                     clear n0_ n1_ n2_ n3_ n4_ n5_ n6_ n7_
                     have n0_ := Ax.mk (Kd.N_drew HO_346001.out)
                     have n1_ := Ax.mk (Kd.N_drew HO_374001.out)
                     have n2_ := Ax.mk (Kd.R_drew HO382.out)
                     have n3_ := Ax.mk (Kd.N_drew HO386.out)
                     have n4_ := Ax.mk (blk_drew BK345.out)
                     have n5_ := Ax.mk (blk_drew BK373.out)
                     have n6_ := Ax.mk (blk_drew BK389.out)
                     have n7_ := Ax.mk (below_drew1 HB.out)
                     clear HO_346001
                     clear HO_374001
                     clear HO382
                     clear HO386
                     clear BK345
                     clear BK373
                     clear BK389
                     clear HB
                     have HO_346001 := n0_
                     have HO_374001 := n1_
                     have HO382 := n2_
                     have HO386 := n3_
                     have BK345 := n4_
                     have BK373 := n5_
                     have BK389 := n6_
                     have HB := n7_
                     clear n0_ n1_ n2_ n3_ n4_ n5_ n6_ n7_
                     refine start_ (n := 12) (S := fun w' => w'.cell? ⟨gb345, 0, none⟩ = some (.int .u64 x346000_2) ∧ w'.cell? ⟨gb345, 1, none⟩ = some (.slice Ao120 x346001_2.length co120) ∧ w'.cell? ⟨gb345, 2, none⟩ = some (.string x346002_2)) (ds := []) (TF 0 12) (by kernel_rfl) rfl rfl ⟨(bC BK345.out 0).trans rfl, (bC BK345.out 1).trans rfl, (bC BK345.out 2).trans rfl⟩ (fun hHeld => ?_); refine with_tabW l13_JournalTorn.tab26 l13_JournalTorn.bits26 (fun HT_ HW_ => ?_)
                     generalize w129.drew = w130 at HO_346001 HO_374001 HO382 HO386 BK345 BK373 BK389 HB hHeld ⊢
                     refine pure_ (i := 0) (N := some 184) (v := ?_) (a' := ?_) (TF 1 11) rfl rfl (any_of HT_.out (by kernel_rfl)) (fun _ _ _ h => h) (Or.inl ⟨by rfl, ?_⟩) ?_ ?_
                     rotate_left; · intro w'; go_simp; with_reducible rfl
                     rotate_left; · simp only [Act.put, sI, sZ, sS, i64_w, i32_w]; rfl
                     refine pure_ (i := 2) (N := some 186) (v := ?_) (a' := ?_) (BT 12 5) rfl rfl (any_of HT_.out (by kernel_rfl)) (fun _ _ _ h => h) (Or.inl ⟨by rfl, ?_⟩) ?_ ?_
                     rotate_left; · intro w'; go_simp; with_reducible rfl
                     rotate_left; · simp only [Act.put, sI, sZ, sS, i64_w, i32_w]; rfl
                     refine pure_ (i := 3) (N := some 187) (v := ?_) (a' := ?_) (BT 12 13) rfl rfl (any_of HT_.out (by kernel_rfl)) (fun _ _ _ h => h) (Or.inl ⟨by rfl, ?_⟩) ?_ ?_
                     rotate_left; · intro w'; go_simp; with_reducible rfl
                     rotate_left; · simp only [Act.put, sI, sZ, sS, i64_w, i32_w]; rfl
                     refine pure_ (i := 4) (N := some 188) (v := ?_) (a' := ?_) (BT 12 29) rfl rfl (any_of HT_.out (by kernel_rfl)) (fun _ _ _ h => h) (Or.inl ⟨by rfl, ?_⟩) ?_ ?_
                     rotate_left; · intro w'; go_simp; with_reducible rfl
                     rotate_left; · simp only [Act.put, sI, sZ, sS, i64_w, i32_w]; rfl
                     refine take_ (i := 1) (N := some 185) (v := ?_) (a' := ?_) (TF 5 7) rfl rfl (take_ofW HT_.out HW_.out (by kernel_rfl)) (fun _ _ _ h => h) (Or.inl ⟨by rfl, ?_⟩) hHeld ?_ ?_
                     rotate_left
                     ·rintro w' ⟨s0, s1, s2⟩
                      go_simp
                      with_reducible rfl
                     rotate_left
                     ·simp only [Act.put, sI, sZ, sS, i64_w, i32_w]
                      rfl
                     refine pure_ (i := 5) (N := some 189) (v := ?_) (a' := ?_) (TF 6 6) rfl rfl (any_of HT_.out (by kernel_rfl)) (fun _ _ _ h => h) (Or.inl ⟨by rfl, ?_⟩) ?_ ?_
                     rotate_left; · intro w'; go_simp; with_reducible rfl
                     rotate_left; · simp only [Act.put, sI, sZ, sS, i64_w, i32_w]; rfl
                     refine one_ (i := 6) (N := some 190) (TF 7 5) rfl rfl (one_of HT_.out (by kernel_rfl)) (by decide) (fun K hK => ?_)
                     refine goes_ Tryd.func44 (by kernel_rfl) rfl #[.string (x346002_2 ++ ((t387.extract x346002_2.size t387.size).extract 0 ((ji109) : Int).toNat))] (by rfl) rfl rfl (by (try simp only [List.map_toArray, List.map_cons, List.map_nil]); first | done | (simp only [hji109]; rfl) | rfl | (simp only [List.length_drop, List.length_take]; rfl) | (rw [wrap_sum2 (by assumption)]; rfl)) ?_
                     with_reducible refine (journal_Read.calls kj64 (x346002_2 ++ ((t387.extract x346002_2.size t387.size).extract 0 ((ji109) : Int).toNat)) t390 t391 t394 t395 _ A113.out (HT.below bA)).mono ?_
                     rintro e w131 ⟨v392, rfl, ho0, hb⟩
                     refine ⟨_, rfl, ?_⟩
                     have n0_ := Ax.mk (Kd.N_elder' (by exact Kd.N_to HO_346001.out) (Kd.N_base ho0) hb)
                     have n1_ := Ax.mk (Kd.N_elder' (by exact Kd.N_to HO_374001.out) (Kd.N_base ho0) hb)
                     have n2_ := Ax.mk (Kd.R_below (by exact Kd.R_to HO382.out) hb)
                     have n3_ := Ax.mk (Kd.N_elder' (by exact Kd.N_to HO386.out) (Kd.N_base ho0) hb)
                     have n4_ := Ax.mk (Kd.N_lower (Kd.N_mono (ok' := fun k_ => some k_ ≠ (.slice Ao120 x346001_2.length co120 : Value).ownBlock ∧ some k_ ≠ (.slice Ao71 t368.length co71 : Value).ownBlock ∧ some k_ ≠ (.slice Ao121 y380.length co121 : Value).ownBlock ∧ some k_ ≠ (.slice Ao127 t384.length co127 : Value).ownBlock ∧ k_ ≠ gb345 ∧ k_ ≠ gb373 ∧ k_ ≠ gb389) ho0 (fun k_ hk_ => ⟨(Kd.fresh' (Kd.N_lt (by exact Kd.N_to HO_346001.out)) k_ hk_), (Kd.fresh' (Kd.N_lt (by exact Kd.N_to HO_374001.out)) k_ hk_), (Kd.fresh' (Kd.R_lt (by exact Kd.R_to HO382.out)) k_ hk_), (Kd.fresh' (Kd.N_lt (by exact Kd.N_to HO386.out)) k_ hk_), (Kd.freshB (g := gb345) (o := .cells #[.int .u64 x346000_2, .slice Ao120 x346001_2.length co120, .string x346002_2] 66 (0, 0)) (bT BK345.out) k_ hk_), (Kd.freshB (g := gb373) (o := .cells #[.int .u64 t367, .slice Ao71 t368.length co71, .string t371] 66 (0, 0)) (bT BK373.out) k_ hk_), (Kd.freshB (g := gb389) (o := .cells #[.int .u64 t383, .slice Ao127 t384.length co127, .string t387] 66 (0, 0)) (bT BK389.out) k_ hk_)⟩)) (bS bA))
                     have n5_ := Ax.mk (bB (bT BK345.out) hb)
                     have n6_ := Ax.mk (bB (bT BK373.out) hb)
                     have n7_ := Ax.mk (bB (bT BK389.out) hb)
                     have n8_ := Ax.mk (bP bA hb)
                     clear HO_346001
                     clear HO_374001
                     clear HO382
                     clear HO386
                     clear BK345
                     clear BK373
                     clear BK389
                     clear HB
                     have HO_346001 := n0_
                     have HO_374001 := n1_
                     have HO382 := n2_
                     have HO386 := n3_
                     have HO393 := n4_
                     have BK345 := n5_
                     have BK373 := n6_
                     have BK389 := n7_
                     have HB := n8_
                     clear n0_ n1_ n2_ n3_ n4_ n5_ n6_ n7_ n8_
                     (try clear hb)
                     (try clear hb2)
                     (try clear hk)
                     (try clear hi)
                     (try clear ho0)
                     obtain ⟨Ao133, co133, eo133⟩ := Kd.N_slice HO393.out
                     (first | subst eo133 | (injection eo133 with f1_ f2_ f3_; have f4_ := f1_.symm; have f5_ := f3_.symm; clear f1_ f2_ f3_; subst f4_; subst f5_))
                     refine hK.out _ _ ⟨(bC BK345.out 0).trans rfl, (bC BK345.out 1).trans rfl, (bC BK345.out 2).trans rfl⟩ (fun hHeld => ?_)
                     clear hK K
                     refine norm_ (a' := ?_) ?_ ?_
                     rotate_left
                     ·show Act.put _ (some 190) _ = _
                      simp only [Act.put, sI, sZ, sS, i64_w, i32_w]
                      rfl
                     refine pure_ (i := 7) (N := some 183) (v := ?_) (a' := ?_) (TF 8 4) rfl rfl (any_of HT_.out (by kernel_rfl)) (fun _ _ _ h => h) (Or.inl ⟨by rfl, ?_⟩) ?_ ?_
                     rotate_left; · intro w'; go_simp; with_reducible rfl
                     rotate_left; · simp only [Act.put, sI, sZ, sS, i64_w, i32_w]; rfl
                     refine pure_ (i := 8) (N := some 191) (v := ?_) (a' := ?_) (TF 9 3) rfl rfl (any_of HT_.out (by kernel_rfl)) (fun _ _ _ h => h) (Or.inl ⟨by rfl, ?_⟩) ?_ ?_
                     rotate_left; · intro w'; go_simp; with_reducible rfl
                     rotate_left; · simp only [Act.put, sI, sZ, sS, i64_w, i32_w]; rfl
                     refine pure_ (i := 9) (N := some 192) (v := ?_) (a' := ?_) (TF 10 2) rfl rfl (any_of HT_.out (by kernel_rfl)) (fun _ _ _ h => h) (Or.inl ⟨by rfl, ?_⟩) ?_ ?_
                     rotate_left; · intro w'; go_simp; with_reducible rfl
                     rotate_left; · simp only [Act.put, sI, sZ, sS, i64_w, i32_w]; rfl
                     refine one_ (i := 10) (N := none) (TF 11 1) rfl rfl (one_of HT_.out (by kernel_rfl)) (by decide) (fun K hK => ?_)
                     have hs132 : w131.cell? ⟨gb373, 0, none⟩ = some (.int .u64 t367) := (bC BK373.out 0).trans rfl
                     have hfs132 := bF BK373.out 0
                     have hns132_0 := NB345_373.out
                     have hns132_2 := NB389_373.out
                     have hms132_0 := NB373_345.out
                     have hms132_2 := NB373_389.out
                     have hs134 : w131.cell? ⟨gb373, 1, none⟩ = some (.slice Ao71 t368.length co71) := (bC BK373.out 1).trans rfl
                     have hfs134 := bF BK373.out 1
                     have hns134_0 := NB345_373.out
                     have hns134_2 := NB389_373.out
                     have hms134_0 := NB373_345.out
                     have hms134_2 := NB373_389.out
                     have hs135 : w131.cell? ⟨gb373, 2, none⟩ = some (.string t371) := (bC BK373.out 2).trans rfl
                     have hfs135 := bF BK373.out 2
                     have hns135_0 := NB345_373.out
                     have hns135_2 := NB389_373.out
                     have hms135_0 := NB373_345.out
                     have hms135_2 := NB373_389.out
                     refine skip_ (w1 := ?_) (by rfl) rfl ?_ ?_
                     rotate_left
                     ·go_simp
                      rfl
                     refine hK.out _ _ ⟨((cell_far (p := ⟨gb373, _, none⟩) NB345_373.out _).trans (((cell_far (p := ⟨gb373, _, none⟩) NB345_373.out _).trans (((cell_far (p := ⟨gb373, _, none⟩) NB345_373.out _).trans (hHeld.1)))))), ((cell_far (p := ⟨gb373, _, none⟩) NB345_373.out _).trans (((cell_far (p := ⟨gb373, _, none⟩) NB345_373.out _).trans (((cell_far (p := ⟨gb373, _, none⟩) NB345_373.out _).trans (hHeld.2.1)))))), ((cell_far (p := ⟨gb373, _, none⟩) NB345_373.out _).trans (((cell_far (p := ⟨gb373, _, none⟩) NB345_373.out _).trans (((cell_far (p := ⟨gb373, _, none⟩) NB345_373.out _).trans (hHeld.2.2))))))⟩ (fun hHeld => ?_)
                     clear hK K
                     refine pure_ (i := 11) (N := some 20) (v := ?_) (a' := ?_) (TF 12 0) rfl rfl (any_of HT_.out (by kernel_rfl)) (fun _ _ _ h => h) (Or.inl ⟨by rfl, ?_⟩) ?_ ?_
                     rotate_left; · intro w'; go_simp; with_reducible rfl
                     rotate_left; · simp only [Act.put, sI, sZ, sS, i64_w, i32_w]; rfl
                     refine done_ (done_of HT_.out (by kernel_rfl)) ?_
                     have hcz136_0 : w131.cell? ⟨gb345, 0, none⟩ = some (.int .u64 x346000_2) := (bC BK345.out 0).trans rfl
                     have hcz136_1 : w131.cell? ⟨gb345, 1, none⟩ = some (.slice Ao120 x346001_2.length co120) := (bC BK345.out 1).trans rfl
                     have hcz136_2 : w131.cell? ⟨gb345, 2, none⟩ = some (.string x346002_2) := (bC BK345.out 2).trans rfl
                     have hfz136_0 := bF BK345.out 0
                     have hfz136_1 := bF BK345.out 1
                     have hfz136_2 := bF BK345.out 2
                     have hcz137_0 : w131.cell? ⟨gb373, 0, none⟩ = some (.int .u64 t367) := (bC BK373.out 0).trans rfl
                     have hcz137_1 : w131.cell? ⟨gb373, 1, none⟩ = some (.slice Ao71 t368.length co71) := (bC BK373.out 1).trans rfl
                     have hcz137_2 : w131.cell? ⟨gb373, 2, none⟩ = some (.string t371) := (bC BK373.out 2).trans rfl
                     have hfz137_0 := bF BK373.out 0
                     have hfz137_1 := bF BK373.out 1
                     have hfz137_2 := bF BK373.out 2
                     try go_wp2
                     go_ret
                     exact ⟨by first | rfl | (simp [errW_none, errW_some] <;> rfl) | (simp only [← hji52, ← hji53, ← hji108, ← hji109]; first | rfl | (simp [errW_none, errW_some] <;> rfl)) | (simp [*, errW_none, errW_some] <;> rfl), bA⟩
                    ·rw [if_neg c115] at H
                     exact absurd H (by simp)
                   ·rw [if_neg c114] at H
                    exact absurd H (by simp)
                  ·rw [if_neg c112] at H
                   exact absurd H (by simp)
                 ·rw [if_neg c111] at H
                  exact absurd H (by simp)
                ·rw [if_neg c110] at H
                 exact absurd H (by simp)
               ·rw [if_neg c107] at H
                exact absurd H (by simp)
              ·rw [if_neg c106] at H
               exact absurd H (by simp)
          ·rw [if_neg c63] at H
           exact absurd H (by simp)
         ·rw [if_neg c62] at H
          exact absurd H (by simp)
end Go.Proofs.YtboommbclbjlnaaDoor.Fn
end
