-- Packed by pack.py, a program of this session, out of texts of this claim.
import Derived.Test.YtboommbclbjlnaaDoorProg
import Derived.Below
import Derived.Deep.Draws
import Derived.Deep.AppendLies
import Derived.Maps.AppendAt
import Derived.OwnWalk
import Derived.Laws.BytesArg
import Derived.Laws.MakeOwn
import Derived.Laws.OwnMore
import Derived.Deep.OwnRows
import Derived.Tactics
import Derived.Lib.ConvBytes
import Derived.Laws.Slices
import Derived.WalkKit
import Derived.KernelRfl
import Derived.RowKit3
import Derived.Deep.LoopGhost
import Derived.Deep.QuietTactic
import Derived.BigQuiet
import Derived.WideLaws
import Derived.Deep.DeepCutAuto
import Derived.Deep.CutBlock
import Derived.Deep.RegionHeld3
import Derived.Laws.Rows
import Derived.Lib.AppendStr
import Derived.ArgAppend
import Derived.Laws.IdiomCopy
import Derived.OrdersHeld
import Derived.Laws.BitsLemmas
import Derived.RowKit
import Derived.Test.YtboommbclbjlnaaDoorLfLe
import Derived.Test.YtboommbclbjlnaaDoorLfSum
import Derived.Test.YtboommbclbjlnaaDoorLfRight
import Derived.Test.YtboommbclbjlnaaDoorClStepTornLfBytes
import Derived.Test.YtboommbclbjlnaaDoorClStepTorn0
import Derived.Test.YtboommbclbjlnaaDoorLfRange
import Derived.RangeFuncBound
import Derived.RangeFuncLeaves
import Derived.Shelf.Abstract
import Derived.OwnWalkIn
import Derived.TacticsInMore
import Derived.Sort.LoopGhostIn
import Derived.Lib.Hide
section
-- Written by printx.py, a program of this session over the kit's print: each Go function as a plain Lean function, and that the Go code computes it.
namespace Go.Proofs.YtboommbclbjlnaaDoor.Fn
open Go.RowKit Go.Proofs.YtboommbclbjlnaaDoorW.PrintWords Go.Proofs.YtboommbclbjlnaaDoorW.PrintLast Go.Proofs.YtboommbclbjlnaaDoorW.PrintMore Go.Proofs.YtboommbclbjlnaaDoor.Lf
attribute [local go_sem] max2_int min2_int max_two min_two max_three min_three max_four min_four   -- for this text's walks alone
set_option linter.unusedVariables false
set_option linter.unusedSimpArgs false
def errW : Option Int → Value
 | none => .nilIface
 | some c => .iface 0 (.int .i64 c)
theorem errW_none : errW none = .nilIface := rfl
theorem errW_some (c : Int) : errW (some c) = .iface 0 (.int .i64 c) := rfl
theorem info3 : (Tryd.prog.info? 3).map (fun i => (i.zero, i.size, i.bytes)) = some (some (.int .i64 0), 1, 8) := by kernel_rfl
theorem info24 : (Tryd.prog.info? 24).map (fun i => (i.zero, i.size, i.bytes)) = some (some (.agg #[(.int .i64 0), (.int .i64 0), (.int .i64 0), (.int .u64 0), (.string ⟨#[]⟩)]), 5, 48) := by kernel_rfl
theorem info26 : (Tryd.prog.info? 26).map (fun i => (i.zero, i.size, i.bytes)) = some (some (.agg #[(.int .i64 0), (.int .i64 0), (.int .i64 0), (.int .u64 0), (.string ⟨#[]⟩)]), 5, 48) := by kernel_rfl
structure S24 where
 f0 : Int
 f1 : Int
 f2 : Int
 f3 : Int
 f4 : ByteArray
def z24 : S24 := ⟨(0 : Int), (0 : Int), (0 : Int), (0 : Int), (⟨#[]⟩ : ByteArray)⟩
def k24 : Kd S24 := Kd.iso (Kd.pair (Kd.int .i64) (Kd.pair (Kd.int .i64) (Kd.pair (Kd.int .i64) (Kd.pair (Kd.int .u64) Kd.string)))) (fun x : S24 => (x.f0, x.f1, x.f2, x.f3, x.f4))
theorem k24_open {w : World} {x : S24} {cs : List Value} (h : k24.K w x cs) : cs = [.int .i64 x.f0, .int .i64 x.f1, .int .i64 x.f2, .int .u64 x.f3, .string x.f4] := by
 obtain ⟨_, _, rfl, rfl, ⟨_, _, rfl, rfl, ⟨_, _, rfl, rfl, ⟨_, _, rfl, rfl, rfl⟩⟩⟩⟩ := h
 exact rfl
theorem k24_mk (w : World) (x : S24)  : k24.K w x [.int .i64 x.f0, .int .i64 x.f1, .int .i64 x.f2, .int .u64 x.f3, .string x.f4] := ⟨[.int .i64 x.f0], [.int .i64 x.f1, .int .i64 x.f2, .int .u64 x.f3, .string x.f4], rfl, rfl, ⟨[.int .i64 x.f1], [.int .i64 x.f2, .int .u64 x.f3, .string x.f4], rfl, rfl, ⟨[.int .i64 x.f2], [.int .u64 x.f3, .string x.f4], rfl, rfl, ⟨[.int .u64 x.f3], [.string x.f4], rfl, rfl, rfl⟩⟩⟩⟩
theorem k24_mkM (w : World) (base : Nat) (ok : Nat → Prop) (x : S24)  : k24.M w base ok x [.int .i64 x.f0, .int .i64 x.f1, .int .i64 x.f2, .int .u64 x.f3, .string x.f4] := ⟨[.int .i64 x.f0], [.int .i64 x.f1, .int .i64 x.f2, .int .u64 x.f3, .string x.f4], rfl, rfl, ⟨[.int .i64 x.f1], [.int .i64 x.f2, .int .u64 x.f3, .string x.f4], rfl, rfl, ⟨[.int .i64 x.f2], [.int .u64 x.f3, .string x.f4], rfl, rfl, ⟨[.int .u64 x.f3], [.string x.f4], rfl, rfl, rfl⟩⟩⟩⟩
def rd_T24 (xs : List S24) (i : Int) : S24 := xs.getD i.toNat z24
theorem at_T24 {w : World} {A : Option Addr} {n : Nat} {xs : List S24} (h : Kd.C k24 w A n xs) (i : Int) (h0 : 0 ≤ i) (h1 : i < n) : ∃ ad , A = some ad ∧ w.cell? (ad.add (i.toNat * 5)) = some (.int .i64 (rd_T24 xs i).f0) ∧ w.cell? ⟨(ad.add (i.toNat * 5)).block, (ad.add (i.toNat * 5)).off + 1, none⟩ = some (.int .i64 (rd_T24 xs i).f1) ∧ w.cell? ⟨(ad.add (i.toNat * 5)).block, (ad.add (i.toNat * 5)).off + 2, none⟩ = some (.int .i64 (rd_T24 xs i).f2) ∧ w.cell? ⟨(ad.add (i.toNat * 5)).block, (ad.add (i.toNat * 5)).off + 3, none⟩ = some (.int .u64 (rd_T24 xs i).f3) ∧ w.cell? ⟨(ad.add (i.toNat * 5)).block, (ad.add (i.toNat * 5)).off + 4, none⟩ = some (.string (rd_T24 xs i).f4) := by
 obtain ⟨ad, c, e, _, hK, hc0⟩ := Kd.C_get h z24 i h0 h1
 have hc : ∀ j u, c[j]? = some u → w.cell? (ad.add (i.toNat * 5 + j)) = some u := hc0
 obtain rfl := k24_open hK
 exact ⟨ad, e, hc 0 _ rfl, by rw [← add_field _ _ 1 (by omega)]; exact hc 1 _ rfl, by rw [← add_field _ _ 2 (by omega)]; exact hc 2 _ rfl, by rw [← add_field _ _ 3 (by omega)]; exact hc 3 _ rfl, by rw [← add_field _ _ 4 (by omega)]; exact hc 4 _ rfl⟩
structure S26 where
 f0 : Int
 f1 : Int
 f2 : Int
 f3 : Int
 f4 : ByteArray
def z26 : S26 := ⟨(0 : Int), (0 : Int), (0 : Int), (0 : Int), (⟨#[]⟩ : ByteArray)⟩
def k26 : Kd S26 := Kd.iso (Kd.pair (Kd.int .i64) (Kd.pair (Kd.int .i64) (Kd.pair (Kd.int .i64) (Kd.pair (Kd.int .u64) Kd.string)))) (fun x : S26 => (x.f0, x.f1, x.f2, x.f3, x.f4))
theorem k26_open {w : World} {x : S26} {cs : List Value} (h : k26.K w x cs) : cs = [.int .i64 x.f0, .int .i64 x.f1, .int .i64 x.f2, .int .u64 x.f3, .string x.f4] := by
 obtain ⟨_, _, rfl, rfl, ⟨_, _, rfl, rfl, ⟨_, _, rfl, rfl, ⟨_, _, rfl, rfl, rfl⟩⟩⟩⟩ := h
 exact rfl
theorem k26_mkM (w : World) (base : Nat) (ok : Nat → Prop) (x : S26)  : k26.M w base ok x [.int .i64 x.f0, .int .i64 x.f1, .int .i64 x.f2, .int .u64 x.f3, .string x.f4] := ⟨[.int .i64 x.f0], [.int .i64 x.f1, .int .i64 x.f2, .int .u64 x.f3, .string x.f4], rfl, rfl, ⟨[.int .i64 x.f1], [.int .i64 x.f2, .int .u64 x.f3, .string x.f4], rfl, rfl, ⟨[.int .i64 x.f2], [.int .u64 x.f3, .string x.f4], rfl, rfl, ⟨[.int .u64 x.f3], [.string x.f4], rfl, rfl, rfl⟩⟩⟩⟩
def rd_T26 (xs : List S26) (i : Int) : S26 := xs.getD i.toNat z26
theorem at_T26 {w : World} {A : Option Addr} {n : Nat} {xs : List S26} (h : Kd.C k26 w A n xs) (i : Int) (h0 : 0 ≤ i) (h1 : i < n) : ∃ ad , A = some ad ∧ w.cell? (ad.add (i.toNat * 5)) = some (.int .i64 (rd_T26 xs i).f0) ∧ w.cell? ⟨(ad.add (i.toNat * 5)).block, (ad.add (i.toNat * 5)).off + 1, none⟩ = some (.int .i64 (rd_T26 xs i).f1) ∧ w.cell? ⟨(ad.add (i.toNat * 5)).block, (ad.add (i.toNat * 5)).off + 2, none⟩ = some (.int .i64 (rd_T26 xs i).f2) ∧ w.cell? ⟨(ad.add (i.toNat * 5)).block, (ad.add (i.toNat * 5)).off + 3, none⟩ = some (.int .u64 (rd_T26 xs i).f3) ∧ w.cell? ⟨(ad.add (i.toNat * 5)).block, (ad.add (i.toNat * 5)).off + 4, none⟩ = some (.string (rd_T26 xs i).f4) := by
 obtain ⟨ad, c, e, _, hK, hc0⟩ := Kd.C_get h z26 i h0 h1
 have hc : ∀ j u, c[j]? = some u → w.cell? (ad.add (i.toNat * 5 + j)) = some u := hc0
 obtain rfl := k26_open hK
 exact ⟨ad, e, hc 0 _ rfl, by rw [← add_field _ _ 1 (by omega)]; exact hc 1 _ rfl, by rw [← add_field _ _ 2 (by omega)]; exact hc 2 _ rfl, by rw [← add_field _ _ 3 (by omega)]; exact hc 3 _ rfl, by rw [← add_field _ _ 4 (by omega)]; exact hc 4 _ rfl⟩
def rd_L7 (xs : List (List S24)) (i : Int) : (List S24) := xs.getD i.toNat ([] : List S24)
def seal_Put.f (a0 : ByteArray) : Option (ByteArray) := (seal_Sum.f a0).bind fun t105 => ((le_Put.f (IntKind.u64.wrap (t105)) 4).bind fun t106 => (if a0.size + t106.size ≤ 9223372036854775807 then (some (a0 ++ t106)) else (none)))
set_option maxHeartbeats 8000000 in
set_option maxRecDepth 100000 in
theorem seal_Put.calls (a0 : ByteArray) (r : ByteArray) (w : World) (h : seal_Put.f a0 = some r) :
  Calls Tryd.prog 46 #[.string a0] w fun e w' => e = .returned (.string r) ∧ Below w.heap.size w w' := by
 have HB := Ax.mk (Below.refl w.heap.size w)
 have H : ((seal_Sum.f a0).bind fun t105 => ((le_Put.f (IntKind.u64.wrap (t105)) 4).bind fun t106 => (if a0.size + t106.size ≤ 9223372036854775807 then (some (a0 ++ t106)) else (none)))) = some r := h
 clear h
 replace H := Option.bind_eq_some_iff.mp H
 obtain ⟨t105, A20, H⟩ := H
 replace H : ((le_Put.f (IntKind.u64.wrap (t105)) 4).bind fun t106 => (if a0.size + t106.size ≤ 9223372036854775807 then (some (a0 ++ t106)) else (none))) = some r := H
 have A2 := Ax.mk A20
 clear A20
 replace H := Option.bind_eq_some_iff.mp H
 obtain ⟨t106, A30, H⟩ := H
 replace H : (if a0.size + t106.size ≤ 9223372036854775807 then (some (a0 ++ t106)) else (none)) = some r := H
 have A3 := Ax.mk A30
 clear A30
 by_cases c4 : a0.size + t106.size ≤ 9223372036854775807
 ·rw [if_pos c4] at H
  have c4b0 := eq_true c4
  have c4b1 : decide (a0.size + t106.size ≤ 9223372036854775807) = true := decide_eq_true c4
  try have c4b2 : (9223372036854775807 < a0.size + t106.size) = False := eq_false (Nat.not_lt.2 c4)
  obtain rfl := Option.some.inj H
  go_enter Tryd.func46, Tryd.ntmps46
  go_wp2_with (first | ((with_reducible refine gate_callee (f := 66) rfl ?_); refine goesL_ (some 5) rfl rfl Tryd.func66 (by kernel_rfl) rfl #[.string a0] rfl (by (try simp only [List.map_toArray, List.map_cons, List.map_nil]); first | done | rfl | (simp only [List.length_drop, List.length_take]; rfl) | (rw [wrap_sum2 (by assumption)]; rfl)) ?_; (with_reducible refine (seal_Sum.calls a0 t105 _ A2.out).mono ?_); rintro e w5 ⟨rfl, hb⟩; refine ⟨_, rfl, ?_⟩; have n0_ := Ax.mk (bP bA hb); clear HB; have HB := n0_; clear n0_; (try clear hb); (try clear hb2); (try clear hk); (try clear hi)) | ((with_reducible refine gate_callee (f := 47) rfl ?_); refine goesL_ (some 7) rfl rfl Tryd.func47 (by kernel_rfl) rfl #[.int .u64 (IntKind.u64.wrap (t105)), .int .i64 4] rfl (by (try simp only [List.map_toArray, List.map_cons, List.map_nil]); first | done | rfl | (simp only [List.length_drop, List.length_take]; rfl) | (rw [wrap_sum2 (by assumption)]; rfl)) ?_; (with_reducible refine (le_Put.calls (IntKind.u64.wrap (t105)) 4 t106 _ A3.out).mono ?_); rintro e w6 ⟨rfl, hb⟩; refine ⟨_, rfl, ?_⟩; have n0_ := Ax.mk (bP bA hb); clear HB; have HB := n0_; clear n0_; (try clear hb); (try clear hb2); (try clear hk); (try clear hi)))
  go_ret
  exact ⟨by first | rfl | (simp [errW_none, errW_some] <;> rfl) | (simp [*, errW_none, errW_some] <;> rfl), bA⟩
 ·rw [if_neg c4] at H
  exact absurd H (by simp)
def r2_Put.l0 : Nat → Int → Int → List Int → Int → Option (ByteArray)
 | 0, _, _, _, _ => none
 | k + 1, x0, x1, x5, x6 => if x6 < x1 then (if x6 < 8 then (if x5.length < 140737488355328 then (r2_Put.l0 k (IntKind.u64.wrap (Int.tdiv x0 256)) x1 (x5 ++ [(Int.tmod x0 256) % 256]) (wrap64 (x6 + 1))) else (none)) else (some (strOfNums x5))) else (some (strOfNums x5))
def r2_Put.f (k : Nat) (a0 : Int) (a1 : Int) : Option (ByteArray) := r2_Put.l0 k a0 a1 ([] : List Int) 0
theorem r2_Put.mono_l : ∀ k, (∀ y0 y1 y2 y3, LeO (r2_Put.l0 k y0 y1 y2 y3) (r2_Put.l0 (k + 1) y0 y1 y2 y3))
 | 0 => fun _ _ _ _ r h => by simp [r2_Put.l0] at h
 | k + 1 => by
  have ih0 := r2_Put.mono_l k
  ·intro y0 y1 y2 y3
   unfold r2_Put.l0
   repeat' first
   | (with_reducible exact ih0 _ _ _ _)
   | (with_reducible exact LeO.refl _)
   | (with_reducible exact LeO.none _)
   | (with_reducible refine LeO.ite ?_ ?_)
   | (with_reducible refine LeO.bind ?_ (fun _ => ?_))
   | exact ih0 _ _ _ _
   | exact LeO.none _
   | refine LeO.ite ?_ ?_
   | refine LeO.bind ?_ (fun _ => ?_)
theorem r2_Put.mono : ∀ a0 a1 k, LeO (r2_Put.f k a0 a1) (r2_Put.f (k + 1) a0 a1) := by
 intro a0 a1 k
 have ih0 := r2_Put.mono_l k
 unfold r2_Put.f
 repeat' first
   | (with_reducible exact ih0 _ _ _ _)
   | (with_reducible exact LeO.refl _)
   | (with_reducible exact LeO.none _)
   | (with_reducible refine LeO.ite ?_ ?_)
   | (with_reducible refine LeO.bind ?_ (fun _ => ?_))
   | exact ih0 _ _ _ _
   | exact LeO.none _
   | refine LeO.ite ?_ ?_
   | refine LeO.bind ?_ (fun _ => ?_)
mutual
def r3_Sum.l0 : Nat → ByteArray → Int → Int → Option (Int)
 | 0, _, _, _ => none
 | k + 1, x0, x3, x4 => if x4 < (x0.size : Int) then (if 0 ≤ x4 then (r3_Sum.l1 k x0 x3 x4 ((bt x0 x4) % 4294967296) 0) else (none)) else (some (Go.bits .xor .u32 x3 4294967295))
def r3_Sum.l1 : Nat → ByteArray → Int → Int → Int → Int → Option (Int)
 | 0, _, _, _, _, _ => none
 | k + 1, x0, x3, x4, x5, x6 => if x6 < 8 then (if (Go.bits .and .u32 (Go.bits .xor .u32 x3 x5) 1) = 1 then (r3_Sum.l1 k x0 (Go.bits .xor .u32 ((Int.tdiv x3 2) % 4294967296) 3988292384) x4 ((Int.tdiv x5 2) % 4294967296) (wrap64 (x6 + 1))) else (r3_Sum.l1 k x0 ((Int.tdiv x3 2) % 4294967296) x4 ((Int.tdiv x5 2) % 4294967296) (wrap64 (x6 + 1)))) else (r3_Sum.l0 k x0 x3 (wrap64 (x4 + 1)))
end
def r3_Sum.f (k : Nat) (a0 : ByteArray) : Option (Int) := r3_Sum.l0 k a0 4294967295 0
theorem r3_Sum.mono_l : ∀ k, (∀ y0 y1 y2, LeO (r3_Sum.l0 k y0 y1 y2) (r3_Sum.l0 (k + 1) y0 y1 y2)) ∧ (∀ y0 y1 y2 y3 y4, LeO (r3_Sum.l1 k y0 y1 y2 y3 y4) (r3_Sum.l1 (k + 1) y0 y1 y2 y3 y4))
 | 0 => ⟨fun _ _ _ r h => by simp [r3_Sum.l0] at h, fun _ _ _ _ _ r h => by simp [r3_Sum.l1] at h⟩
 | k + 1 => by
  obtain ⟨ih0, ih1⟩ := r3_Sum.mono_l k
  refine ⟨?_, ?_⟩
  ·intro y0 y1 y2
   unfold r3_Sum.l0
   repeat' first
   | (with_reducible exact ih0 _ _ _)
   | (with_reducible exact ih1 _ _ _ _ _)
   | (with_reducible exact LeO.refl _)
   | (with_reducible exact LeO.none _)
   | (with_reducible refine LeO.ite ?_ ?_)
   | (with_reducible refine LeO.bind ?_ (fun _ => ?_))
   | exact ih0 _ _ _
   | exact ih1 _ _ _ _ _
   | exact LeO.none _
   | refine LeO.ite ?_ ?_
   | refine LeO.bind ?_ (fun _ => ?_)
  ·intro y0 y1 y2 y3 y4
   unfold r3_Sum.l1
   repeat' first
   | (with_reducible exact ih0 _ _ _)
   | (with_reducible exact ih1 _ _ _ _ _)
   | (with_reducible exact LeO.refl _)
   | (with_reducible exact LeO.none _)
   | (with_reducible refine LeO.ite ?_ ?_)
   | (with_reducible refine LeO.bind ?_ (fun _ => ?_))
   | exact ih0 _ _ _
   | exact ih1 _ _ _ _ _
   | exact LeO.none _
   | refine LeO.ite ?_ ?_
   | refine LeO.bind ?_ (fun _ => ?_)
theorem r3_Sum.mono : ∀ a0 k, LeO (r3_Sum.f k a0) (r3_Sum.f (k + 1) a0) := by
 intro a0 k
 obtain ⟨ih0, ih1⟩ := r3_Sum.mono_l k
 unfold r3_Sum.f
 repeat' first
   | (with_reducible exact ih0 _ _ _)
   | (with_reducible exact ih1 _ _ _ _ _)
   | (with_reducible exact LeO.refl _)
   | (with_reducible exact LeO.none _)
   | (with_reducible refine LeO.ite ?_ ?_)
   | (with_reducible refine LeO.bind ?_ (fun _ => ?_))
   | exact ih0 _ _ _
   | exact ih1 _ _ _ _ _
   | exact LeO.none _
   | refine LeO.ite ?_ ?_
   | refine LeO.bind ?_ (fun _ => ?_)
def r3_Put.f (k : Nat) (a0 : ByteArray) : Option (ByteArray) := (r3_Sum.f k a0).bind fun t148 => ((r2_Put.f k (IntKind.u64.wrap (t148)) 4).bind fun t149 => (if a0.size + t149.size ≤ 9223372036854775807 then (some (a0 ++ t149)) else (none)))
theorem r3_Put.mono : ∀ a0 k, LeO (r3_Put.f k a0) (r3_Put.f (k + 1) a0) := by
 intro a0 k
 unfold r3_Put.f
 repeat' first
   | (with_reducible exact r2_Put.mono _ _ _)
   | (with_reducible exact r3_Sum.mono _ _)
   | (with_reducible exact LeO.refl _)
   | (with_reducible exact LeO.none _)
   | (with_reducible refine LeO.ite ?_ ?_)
   | (with_reducible refine LeO.bind ?_ (fun _ => ?_))
   | exact r2_Put.mono _ _ _
   | exact r3_Sum.mono _ _
   | exact LeO.none _
   | refine LeO.ite ?_ ?_
   | refine LeO.bind ?_ (fun _ => ?_)
def r1_more.f (a0 : ByteArray) (a1 : Int) : Option (Bool) := if a1 < (a0.size : Int) then (if 0 ≤ a1 then (if (bt a0 a1) ≥ 128 then (some (decide ((bt a0 a1) ≤ 191))) else (some false)) else (none)) else (some false)
mutual
def r1_Rune.j0 : Nat → ByteArray → Int → Bool → Option (Int × Int)
 | 0, _, _, _ => none
 | k + 1, x0, x4, x22 => if x22 = true then (if 1 < (x0.size : Int) then (some (wrap64 ((wrap64 ((wrap64 ((wrap64 (x4 - 192)) * 64)) + (wrap64 (bt x0 1)))) - 128), 2)) else (none)) else (if x4 ≥ 224 then (if x4 ≤ 239 then ((r1_more.f x0 1).bind fun t132 => (if t132 = true then ((r1_more.f x0 2).bind fun t133 => (r1_Rune.j1 k x0 x4 t133)) else (r1_Rune.j1 k x0 x4 false))) else (r1_Rune.j1 k x0 x4 false)) else (r1_Rune.j1 k x0 x4 false))
def r1_Rune.j1 : Nat → ByteArray → Int → Bool → Option (Int × Int)
 | 0, _, _, _ => none
 | k + 1, x0, x4, x44 => if x44 = true then (if 1 < (x0.size : Int) then (if 2 < (x0.size : Int) then (if (wrap64 ((wrap64 ((wrap64 ((wrap64 ((wrap64 (x4 - 224)) * 4096)) + (wrap64 ((wrap64 ((wrap64 (bt x0 1)) - 128)) * 64)))) + (wrap64 (bt x0 2)))) - 128)) ≥ 2048 then (if (wrap64 ((wrap64 ((wrap64 ((wrap64 ((wrap64 (x4 - 224)) * 4096)) + (wrap64 ((wrap64 ((wrap64 (bt x0 1)) - 128)) * 64)))) + (wrap64 (bt x0 2)))) - 128)) ≥ 55296 then (if ((wrap64 ((wrap64 ((wrap64 ((wrap64 ((wrap64 (x4 - 224)) * 4096)) + (wrap64 ((wrap64 ((wrap64 (bt x0 1)) - 128)) * 64)))) + (wrap64 (bt x0 2)))) - 128)) ≤ 57343) then (r1_Rune.j2 k x0 x4) else (some (wrap64 ((wrap64 ((wrap64 ((wrap64 ((wrap64 (x4 - 224)) * 4096)) + (wrap64 ((wrap64 ((wrap64 (bt x0 1)) - 128)) * 64)))) + (wrap64 (bt x0 2)))) - 128), 3))) else (some (wrap64 ((wrap64 ((wrap64 ((wrap64 ((wrap64 (x4 - 224)) * 4096)) + (wrap64 ((wrap64 ((wrap64 (bt x0 1)) - 128)) * 64)))) + (wrap64 (bt x0 2)))) - 128), 3))) else (r1_Rune.j2 k x0 x4)) else (none)) else (none)) else (r1_Rune.j2 k x0 x4)
def r1_Rune.j2 : Nat → ByteArray → Int → Option (Int × Int)
 | 0, _, _ => none
 | k + 1, x0, x4 => if x4 ≥ 240 then (if x4 ≤ 244 then ((r1_more.f x0 1).bind fun t134 => (if t134 = true then ((r1_more.f x0 2).bind fun t135 => (if t135 = true then ((r1_more.f x0 3).bind fun t136 => (r1_Rune.j3 k x0 x4 t136)) else (r1_Rune.j3 k x0 x4 false))) else (r1_Rune.j3 k x0 x4 false))) else (r1_Rune.j3 k x0 x4 false)) else (r1_Rune.j3 k x0 x4 false)
def r1_Rune.j3 : Nat → ByteArray → Int → Bool → Option (Int × Int)
 | 0, _, _, _ => none
 | k + 1, x0, x4, x88 => if x88 = true then (if 1 < (x0.size : Int) then (if 2 < (x0.size : Int) then (if 3 < (x0.size : Int) then (if (wrap64 ((wrap64 ((wrap64 ((wrap64 ((wrap64 ((wrap64 (x4 - 240)) * 262144)) + (wrap64 ((wrap64 ((wrap64 (bt x0 1)) - 128)) * 4096)))) + (wrap64 ((wrap64 ((wrap64 (bt x0 2)) - 128)) * 64)))) + (wrap64 (bt x0 3)))) - 128)) ≥ 65536 then (if (wrap64 ((wrap64 ((wrap64 ((wrap64 ((wrap64 ((wrap64 (x4 - 240)) * 262144)) + (wrap64 ((wrap64 ((wrap64 (bt x0 1)) - 128)) * 4096)))) + (wrap64 ((wrap64 ((wrap64 (bt x0 2)) - 128)) * 64)))) + (wrap64 (bt x0 3)))) - 128)) ≤ 1114111 then (some (wrap64 ((wrap64 ((wrap64 ((wrap64 ((wrap64 ((wrap64 (x4 - 240)) * 262144)) + (wrap64 ((wrap64 ((wrap64 (bt x0 1)) - 128)) * 4096)))) + (wrap64 ((wrap64 ((wrap64 (bt x0 2)) - 128)) * 64)))) + (wrap64 (bt x0 3)))) - 128), 4)) else (some ((-1), 1))) else (some ((-1), 1))) else (none)) else (none)) else (none)) else (some ((-1), 1))
end
def r1_Rune.f (k : Nat) (a0 : ByteArray) : Option (Int × Int) := if 0 < (a0.size : Int) then (if (wrap64 (bt a0 0)) < 128 then (some (wrap64 (bt a0 0), 1)) else (if (wrap64 (bt a0 0)) ≥ 194 then (if (wrap64 (bt a0 0)) ≤ 223 then ((r1_more.f a0 1).bind fun t131 => (r1_Rune.j0 k a0 (wrap64 (bt a0 0)) t131)) else (r1_Rune.j0 k a0 (wrap64 (bt a0 0)) false)) else (r1_Rune.j0 k a0 (wrap64 (bt a0 0)) false))) else (none)
theorem r1_Rune.mono_l : ∀ k, (∀ y0 y1 y2, LeO (r1_Rune.j0 k y0 y1 y2) (r1_Rune.j0 (k + 1) y0 y1 y2)) ∧ (∀ y0 y1 y2, LeO (r1_Rune.j1 k y0 y1 y2) (r1_Rune.j1 (k + 1) y0 y1 y2)) ∧ (∀ y0 y1, LeO (r1_Rune.j2 k y0 y1) (r1_Rune.j2 (k + 1) y0 y1)) ∧ (∀ y0 y1 y2, LeO (r1_Rune.j3 k y0 y1 y2) (r1_Rune.j3 (k + 1) y0 y1 y2))
 | 0 => ⟨fun _ _ _ r h => by simp [r1_Rune.j0] at h, fun _ _ _ r h => by simp [r1_Rune.j1] at h, fun _ _ r h => by simp [r1_Rune.j2] at h, fun _ _ _ r h => by simp [r1_Rune.j3] at h⟩
 | k + 1 => by
  obtain ⟨ih0, ih1, ih2, ih3⟩ := r1_Rune.mono_l k
  refine ⟨?_, ?_, ?_, ?_⟩
  ·intro y0 y1 y2
   unfold r1_Rune.j0
   repeat' first
   | (with_reducible exact ih0 _ _ _)
   | (with_reducible exact ih1 _ _ _)
   | (with_reducible exact ih2 _ _)
   | (with_reducible exact ih3 _ _ _)
   | (with_reducible exact LeO.refl _)
   | (with_reducible exact LeO.none _)
   | (with_reducible refine LeO.ite ?_ ?_)
   | (with_reducible refine LeO.bind ?_ (fun _ => ?_))
   | exact ih0 _ _ _
   | exact ih1 _ _ _
   | exact ih2 _ _
   | exact ih3 _ _ _
   | exact LeO.none _
   | refine LeO.ite ?_ ?_
   | refine LeO.bind ?_ (fun _ => ?_)
  ·intro y0 y1 y2
   unfold r1_Rune.j1
   repeat' first
   | (with_reducible exact ih0 _ _ _)
   | (with_reducible exact ih1 _ _ _)
   | (with_reducible exact ih2 _ _)
   | (with_reducible exact ih3 _ _ _)
   | (with_reducible exact LeO.refl _)
   | (with_reducible exact LeO.none _)
   | (with_reducible refine LeO.ite ?_ ?_)
   | (with_reducible refine LeO.bind ?_ (fun _ => ?_))
   | exact ih0 _ _ _
   | exact ih1 _ _ _
   | exact ih2 _ _
   | exact ih3 _ _ _
   | exact LeO.none _
   | refine LeO.ite ?_ ?_
   | refine LeO.bind ?_ (fun _ => ?_)
  ·intro y0 y1
   unfold r1_Rune.j2
   repeat' first
   | (with_reducible exact ih0 _ _ _)
   | (with_reducible exact ih1 _ _ _)
   | (with_reducible exact ih2 _ _)
   | (with_reducible exact ih3 _ _ _)
   | (with_reducible exact LeO.refl _)
   | (with_reducible exact LeO.none _)
   | (with_reducible refine LeO.ite ?_ ?_)
   | (with_reducible refine LeO.bind ?_ (fun _ => ?_))
   | exact ih0 _ _ _
   | exact ih1 _ _ _
   | exact ih2 _ _
   | exact ih3 _ _ _
   | exact LeO.none _
   | refine LeO.ite ?_ ?_
   | refine LeO.bind ?_ (fun _ => ?_)
  ·intro y0 y1 y2
   unfold r1_Rune.j3
   repeat' first
   | (with_reducible exact ih0 _ _ _)
   | (with_reducible exact ih1 _ _ _)
   | (with_reducible exact ih2 _ _)
   | (with_reducible exact ih3 _ _ _)
   | (with_reducible exact LeO.refl _)
   | (with_reducible exact LeO.none _)
   | (with_reducible refine LeO.ite ?_ ?_)
   | (with_reducible refine LeO.bind ?_ (fun _ => ?_))
   | exact ih0 _ _ _
   | exact ih1 _ _ _
   | exact ih2 _ _
   | exact ih3 _ _ _
   | exact LeO.none _
   | refine LeO.ite ?_ ?_
   | refine LeO.bind ?_ (fun _ => ?_)
theorem r1_Rune.mono : ∀ a0 k, LeO (r1_Rune.f k a0) (r1_Rune.f (k + 1) a0) := by
 intro a0 k
 obtain ⟨ih0, ih1, ih2, ih3⟩ := r1_Rune.mono_l k
 unfold r1_Rune.f
 repeat' first
   | (with_reducible exact ih0 _ _ _)
   | (with_reducible exact ih1 _ _ _)
   | (with_reducible exact ih2 _ _)
   | (with_reducible exact ih3 _ _ _)
   | (with_reducible exact LeO.refl _)
   | (with_reducible exact LeO.none _)
   | (with_reducible refine LeO.ite ?_ ?_)
   | (with_reducible refine LeO.bind ?_ (fun _ => ?_))
   | exact ih0 _ _ _
   | exact ih1 _ _ _
   | exact ih2 _ _
   | exact ih3 _ _ _
   | exact LeO.none _
   | refine LeO.ite ?_ ?_
   | refine LeO.bind ?_ (fun _ => ?_)
def r1_Valid.l0 : Nat → ByteArray → Option (Bool)
 | 0, _ => none
 | k + 1, x0 => if x0.toList = ([] : List UInt8) then (some true) else ((r1_Rune.f k x0).bind fun bt137 => (if bt137.1 < 0 then (some false) else (if 0 ≤ bt137.2 then (if bt137.2 ≤ (x0.size : Int) then (r1_Valid.l0 k (x0.extract (bt137.2 : Int).toNat x0.size)) else (none)) else (none))))
def r1_Valid.f (k : Nat) (a0 : ByteArray) : Option (Bool) := r1_Valid.l0 k a0
theorem r1_Valid.mono_l : ∀ k, (∀ y0, LeO (r1_Valid.l0 k y0) (r1_Valid.l0 (k + 1) y0))
 | 0 => fun _ r h => by simp [r1_Valid.l0] at h
 | k + 1 => by
  have ih0 := r1_Valid.mono_l k
  ·intro y0
   unfold r1_Valid.l0
   repeat' first
   | (with_reducible exact ih0 _)
   | (with_reducible exact r1_Rune.mono _ _)
   | (with_reducible exact LeO.refl _)
   | (with_reducible exact LeO.none _)
   | (with_reducible refine LeO.ite ?_ ?_)
   | (with_reducible refine LeO.bind ?_ (fun _ => ?_))
   | exact ih0 _
   | exact r1_Rune.mono _ _
   | exact LeO.none _
   | refine LeO.ite ?_ ?_
   | refine LeO.bind ?_ (fun _ => ?_)
theorem r1_Valid.mono : ∀ a0 k, LeO (r1_Valid.f k a0) (r1_Valid.f (k + 1) a0) := by
 intro a0 k
 have ih0 := r1_Valid.mono_l k
 unfold r1_Valid.f
 repeat' first
   | (with_reducible exact ih0 _)
   | (with_reducible exact r1_Rune.mono _ _)
   | (with_reducible exact LeO.refl _)
   | (with_reducible exact LeO.none _)
   | (with_reducible refine LeO.ite ?_ ?_)
   | (with_reducible refine LeO.bind ?_ (fun _ => ?_))
   | exact ih0 _
   | exact r1_Rune.mono _ _
   | exact LeO.none _
   | refine LeO.ite ?_ ?_
   | refine LeO.bind ?_ (fun _ => ?_)
def r1_Count.l0 : Nat → ByteArray → Int → Option (Int)
 | 0, _, _ => none
 | k + 1, x0, x3 => if x0.toList = ([] : List UInt8) then (some x3) else ((r1_Rune.f k x0).bind fun bt139 => (if 0 ≤ bt139.2 then (if bt139.2 ≤ (x0.size : Int) then (r1_Count.l0 k (x0.extract (bt139.2 : Int).toNat x0.size) (wrap64 (x3 + 1))) else (none)) else (none)))
def r1_Count.f (k : Nat) (a0 : ByteArray) : Option (Int) := r1_Count.l0 k a0 0
theorem r1_Count.mono_l : ∀ k, (∀ y0 y1, LeO (r1_Count.l0 k y0 y1) (r1_Count.l0 (k + 1) y0 y1))
 | 0 => fun _ _ r h => by simp [r1_Count.l0] at h
 | k + 1 => by
  have ih0 := r1_Count.mono_l k
  ·intro y0 y1
   unfold r1_Count.l0
   repeat' first
   | (with_reducible exact ih0 _ _)
   | (with_reducible exact r1_Rune.mono _ _)
   | (with_reducible exact LeO.refl _)
   | (with_reducible exact LeO.none _)
   | (with_reducible refine LeO.ite ?_ ?_)
   | (with_reducible refine LeO.bind ?_ (fun _ => ?_))
   | exact ih0 _ _
   | exact r1_Rune.mono _ _
   | exact LeO.none _
   | refine LeO.ite ?_ ?_
   | refine LeO.bind ?_ (fun _ => ?_)
theorem r1_Count.mono : ∀ a0 k, LeO (r1_Count.f k a0) (r1_Count.f (k + 1) a0) := by
 intro a0 k
 have ih0 := r1_Count.mono_l k
 unfold r1_Count.f
 repeat' first
   | (with_reducible exact ih0 _ _)
   | (with_reducible exact r1_Rune.mono _ _)
   | (with_reducible exact LeO.refl _)
   | (with_reducible exact LeO.none _)
   | (with_reducible refine LeO.ite ?_ ?_)
   | (with_reducible refine LeO.bind ?_ (fun _ => ?_))
   | exact ih0 _ _
   | exact r1_Rune.mono _ _
   | exact LeO.none _
   | refine LeO.ite ?_ ?_
   | refine LeO.bind ?_ (fun _ => ?_)
mutual
def r1_Right.j0 : Nat → ByteArray → Bool → Option (Bool)
 | 0, _, _ => none
 | k + 1, x0, x30 => if x30 = true then (some false) else (r1_Right.l0 k x0 0)
def r1_Right.l0 : Nat → ByteArray → Int → Option (Bool)
 | 0, _, _ => none
 | k + 1, x0, x4 => if x4 < (x0.size : Int) then (if 0 ≤ x4 then (if (bt x0 x4) < 32 then (some false) else (if (bt x0 x4) = 127 then (some false) else (r1_Right.l0 k x0 (wrap64 (x4 + 1))))) else (none)) else (some true)
end
def r1_Right.f (k : Nat) (a0 : ByteArray) : Option (Bool) := (r1_Valid.f k a0).bind fun t141 => (if t141 = true then (if a0.toList = ([] : List UInt8) then (r1_Right.j0 k a0 true) else ((r1_Count.f k a0).bind fun t142 => (if t142 > 24 then (r1_Right.j0 k a0 true) else (if 0 < (a0.size : Int) then (if (bt a0 0) = 32 then (r1_Right.j0 k a0 true) else (if 0 ≤ (wrap64 ((a0.size : Int) - 1)) then (if (wrap64 ((a0.size : Int) - 1)) < (a0.size : Int) then (r1_Right.j0 k a0 ((bt a0 (wrap64 ((a0.size : Int) - 1))) == 32)) else (none)) else (none))) else (none))))) else (r1_Right.j0 k a0 true))
theorem r1_Right.mono_l : ∀ k, (∀ y0 y1, LeO (r1_Right.j0 k y0 y1) (r1_Right.j0 (k + 1) y0 y1)) ∧ (∀ y0 y1, LeO (r1_Right.l0 k y0 y1) (r1_Right.l0 (k + 1) y0 y1))
 | 0 => ⟨fun _ _ r h => by simp [r1_Right.j0] at h, fun _ _ r h => by simp [r1_Right.l0] at h⟩
 | k + 1 => by
  obtain ⟨ih0, ih1⟩ := r1_Right.mono_l k
  refine ⟨?_, ?_⟩
  ·intro y0 y1
   unfold r1_Right.j0
   repeat' first
   | (with_reducible exact ih0 _ _)
   | (with_reducible exact ih1 _ _)
   | (with_reducible exact r1_Count.mono _ _)
   | (with_reducible exact r1_Valid.mono _ _)
   | (with_reducible exact LeO.refl _)
   | (with_reducible exact LeO.none _)
   | (with_reducible refine LeO.ite ?_ ?_)
   | (with_reducible refine LeO.bind ?_ (fun _ => ?_))
   | exact ih0 _ _
   | exact ih1 _ _
   | exact r1_Count.mono _ _
   | exact r1_Valid.mono _ _
   | exact LeO.none _
   | refine LeO.ite ?_ ?_
   | refine LeO.bind ?_ (fun _ => ?_)
  ·intro y0 y1
   unfold r1_Right.l0
   repeat' first
   | (with_reducible exact ih0 _ _)
   | (with_reducible exact ih1 _ _)
   | (with_reducible exact r1_Count.mono _ _)
   | (with_reducible exact r1_Valid.mono _ _)
   | (with_reducible exact LeO.refl _)
   | (with_reducible exact LeO.none _)
   | (with_reducible refine LeO.ite ?_ ?_)
   | (with_reducible refine LeO.bind ?_ (fun _ => ?_))
   | exact ih0 _ _
   | exact ih1 _ _
   | exact r1_Count.mono _ _
   | exact r1_Valid.mono _ _
   | exact LeO.none _
   | refine LeO.ite ?_ ?_
   | refine LeO.bind ?_ (fun _ => ?_)
theorem r1_Right.mono : ∀ a0 k, LeO (r1_Right.f k a0) (r1_Right.f (k + 1) a0) := by
 intro a0 k
 obtain ⟨ih0, ih1⟩ := r1_Right.mono_l k
 unfold r1_Right.f
 repeat' first
   | (with_reducible exact ih0 _ _)
   | (with_reducible exact ih1 _ _)
   | (with_reducible exact r1_Count.mono _ _)
   | (with_reducible exact r1_Valid.mono _ _)
   | (with_reducible exact LeO.refl _)
   | (with_reducible exact LeO.none _)
   | (with_reducible refine LeO.ite ?_ ?_)
   | (with_reducible refine LeO.bind ?_ (fun _ => ?_))
   | exact ih0 _ _
   | exact ih1 _ _
   | exact r1_Count.mono _ _
   | exact r1_Valid.mono _ _
   | exact LeO.none _
   | refine LeO.ite ?_ ?_
   | refine LeO.bind ?_ (fun _ => ?_)
def step_number.f (a0 : Int) : Option (Bool) := if a0 ≥ 0 then (some (decide (a0 ≤ 2147483647))) else (some false)
set_option maxHeartbeats 8000000 in
set_option maxRecDepth 100000 in
theorem step_number.calls (a0 : Int) (r : Bool) (w : World) (h : step_number.f a0 = some r) :
  Calls Tryd.prog 51 #[.int .i64 a0] w fun e w' => e = .returned (.bool r) ∧ Drawn0 w w' := by
 have H : (if a0 ≥ 0 then (some (decide (a0 ≤ 2147483647))) else (some false)) = some r := h
 clear h
 by_cases c2 : a0 ≥ 0
 ·rw [if_pos c2] at H
  have c2b0 : decide (0 ≤ a0) = true := decide_eq_true c2
  clear c2
  obtain rfl := Option.some.inj H
  go_enter Tryd.func51, Tryd.ntmps51
  go_wp2
  go_ret
  exact ⟨by first | rfl | (simp; done) | (simp [*]; done), by repeat (first | exact Drawn0.refl _ | apply Drawn0.step)⟩
 ·rw [if_neg c2] at H
  have c2b0 : decide (0 ≤ a0) = false := decide_eq_false c2
  clear c2
  obtain rfl := Option.some.inj H
  go_enter Tryd.func51, Tryd.ntmps51
  go_wp2
  go_ret
  exact ⟨by first | rfl | (simp; done) | (simp [*]; done), by repeat (first | exact Drawn0.refl _ | apply Drawn0.step)⟩
end Go.Proofs.YtboommbclbjlnaaDoor.Fn
end
section
namespace Go.Proofs.YtboommbclbjlnaaDoor.Fn
open Go.RowKit Go.Proofs.YtboommbclbjlnaaDoorW.PrintWords Go.Proofs.YtboommbclbjlnaaDoorW.PrintLast Go.Proofs.YtboommbclbjlnaaDoorW.PrintMore Go.Proofs.YtboommbclbjlnaaDoor.Lf
open List (setIfInBounds_toArray set_cons_zero set_cons_succ)
attribute [local go_sem] max2_int min2_int max_two min_two max_three min_three max_four min_four   -- for this text's walks alone
set_option linter.unusedVariables false
set_option linter.unusedSimpArgs false
def step_Right.j0 : Nat → Bool → Int → Int → Int → Int → ByteArray → Option (Bool)
 | 0, _, _, _, _, _, _ => none
 | k + 1, x16, x102000, x102001, x102002, x102003, x102004 => if x16 = true then (some false) else (if x102000 ≥ 1 then (if x102000 ≤ 8 then ((step_number.f x102001).bind fun t103 => (if t103 = true then ((step_number.f x102002).bind fun t104 => (some t104)) else (some false))) else (some false)) else (some false))
def step_Right.f (k : Nat) (a0_0 : Int) (a0_1 : Int) (a0_2 : Int) (a0_3 : Int) (a0_4 : ByteArray) : Option (Bool) := if a0_4.toList = ([] : List UInt8) then (step_Right.j0 k false a0_0 a0_1 a0_2 a0_3 a0_4) else (if a0_0 = 1 then ((label_Right.f a0_4).bind fun t102 => (step_Right.j0 k (!t102) a0_0 a0_1 a0_2 a0_3 a0_4)) else (step_Right.j0 k true a0_0 a0_1 a0_2 a0_3 a0_4))
theorem step_Right.mono_l : ∀ k, (∀ y0 y1 y2 y3 y4 y5, LeO (step_Right.j0 k y0 y1 y2 y3 y4 y5) (step_Right.j0 (k + 1) y0 y1 y2 y3 y4 y5))
 | 0 => fun _ _ _ _ _ _ r h => by simp [step_Right.j0] at h
 | k + 1 => by
  have ih0 := step_Right.mono_l k
  ·intro y0 y1 y2 y3 y4 y5
   unfold step_Right.j0
   repeat' first
   | (with_reducible exact ih0 _ _ _ _ _ _)
   | (with_reducible exact LeO.refl _)
   | (with_reducible exact LeO.none _)
   | (with_reducible refine LeO.ite ?_ ?_)
   | (with_reducible refine LeO.bind ?_ (fun _ => ?_))
   | exact ih0 _ _ _ _ _ _
   | exact LeO.none _
   | refine LeO.ite ?_ ?_
   | refine LeO.bind ?_ (fun _ => ?_)
theorem step_Right.mono : ∀ a0 a1 a2 a3 a4 k, LeO (step_Right.f k a0 a1 a2 a3 a4) (step_Right.f (k + 1) a0 a1 a2 a3 a4) := by
 intro a0 a1 a2 a3 a4 k
 have ih0 := step_Right.mono_l k
 unfold step_Right.f
 repeat' first
   | (with_reducible exact ih0 _ _ _ _ _ _)
   | (with_reducible exact LeO.refl _)
   | (with_reducible exact LeO.none _)
   | (with_reducible refine LeO.ite ?_ ?_)
   | (with_reducible refine LeO.bind ?_ (fun _ => ?_))
   | exact ih0 _ _ _ _ _ _
   | exact LeO.none _
   | refine LeO.ite ?_ ?_
   | refine LeO.bind ?_ (fun _ => ?_)
set_option maxHeartbeats 8000000 in
set_option maxRecDepth 100000 in
theorem step_Right.calls (k : Nat) (a0_0 : Int) (a0_1 : Int) (a0_2 : Int) (a0_3 : Int) (a0_4 : ByteArray) (r : Bool) (w : World) (h : step_Right.f k a0_0 a0_1 a0_2 a0_3 a0_4 = some r) (HT : Tabs w) :
  Calls Tryd.prog 21 #[.agg #[.int .i64 a0_0, .int .i64 a0_1, .int .i64 a0_2, .int .u64 a0_3, .string a0_4]] w fun e w' => e = .returned (.bool r) ∧ Below w.heap.size w w' := by
 have hu24 := Tryd.underlying24
 have HB := Ax.mk (Below.refl w.heap.size w)
 have H : (if a0_4.toList = ([] : List UInt8) then (step_Right.j0 k false a0_0 a0_1 a0_2 a0_3 a0_4) else (if a0_0 = 1 then ((label_Right.f a0_4).bind fun t102 => (step_Right.j0 k (!t102) a0_0 a0_1 a0_2 a0_3 a0_4)) else (step_Right.j0 k true a0_0 a0_1 a0_2 a0_3 a0_4))) = some r := h
 clear h
 have HC2 := Ax.mk H
 clear H
 go_enter Tryd.func21, Tryd.ntmps21
 go_upto_region 1 with (first | ((with_reducible refine gate_dst (N := 1) rfl ?_); refine box_event ?hg (N := 1) ?hd (cs := #[.int .i64 a0_0, .int .i64 a0_1, .int .i64 a0_2, .int .u64 a0_3, .string a0_4]) (t := 24) ?hr ?_; (case hd => rfl); (case hg => rfl); (case hr => first | (go_simp; done) | (go_simp; rfl)); intro gb101 hg w3 hbox hb; have n0_ := Ax.mk (bP bA hb); have n1_ := Ax.mk (hbox); have n2_ := Ax.mk ((ge_new hg : w.heap.size ≤ gb101)); have n3_ := n2_; clear HB; have HB := n0_; have BK101 := n1_; have GW101 := n2_; have GE101 := n3_; clear n0_ n1_ n2_ n3_; clear hb hbox hg))
 (try simp only [Act.put, setIfInBounds_toArray, set_cons_zero, set_cons_succ])
 go_cut [16] (fun v16 wc => ∃ (kq : Nat) (x16_1 : Bool), v16 = .bool x16_1 ∧ Ax (step_Right.j0 kq x16_1 a0_0 a0_1 a0_2 a0_3 a0_4 = some r) ∧ Ax (kq ≤ k) ∧ Ax (wc.heap[gb101]? = some (.cells #[.int .i64 a0_0, .int .i64 a0_1, .int .i64 a0_2, .int .u64 a0_3, .string a0_4] 24 (0, 0))) ∧ Ax (Below w.heap.size w wc))
 case first =>
  have H := HC2.out
  clear HC2
  by_cases c4 : a0_4.toList = ([] : List UInt8)
  ·rw [if_pos c4] at H
   have c4b0 : (a0_4.toList == ([] : List UInt8)) = true := beq_iff_eq.mpr c4
   have c4b1 : (a0_4.toList != ([] : List UInt8)) = false := bne_eq_false_iff_eq.mpr c4
   clear c4
   (first | rw [c4b0] | (simp only [i64_w, i32_w]; rw [c4b0]) | skip)
   have H' := Ax.mk H
   clear H
   have hcz5_0 : w3.cell? ⟨gb101, 0, none⟩ = some (.int .i64 a0_0) := (bC BK101.out 0).trans rfl
   have hcz5_1 : w3.cell? ⟨gb101, 1, none⟩ = some (.int .i64 a0_1) := (bC BK101.out 1).trans rfl
   have hcz5_2 : w3.cell? ⟨gb101, 2, none⟩ = some (.int .i64 a0_2) := (bC BK101.out 2).trans rfl
   have hcz5_3 : w3.cell? ⟨gb101, 3, none⟩ = some (.int .u64 a0_3) := (bC BK101.out 3).trans rfl
   have hcz5_4 : w3.cell? ⟨gb101, 4, none⟩ = some (.string a0_4) := (bC BK101.out 4).trans rfl
   have hfz5_0 := bF BK101.out 0
   have hfz5_1 := bF BK101.out 1
   have hfz5_2 := bF BK101.out 2
   have hfz5_3 := bF BK101.out 3
   have hfz5_4 := bF BK101.out 4
   go_wp2
   go_meet
   case rel => exact ⟨_, (false), (by first | rfl | (simp; done) | (simp [*]; done)), H', ⟨by first | omega | exact Nat.le_refl _⟩, ⟨by refine bT ?_; exact BK101.out⟩, ⟨bA⟩⟩
  ·rw [if_neg c4] at H
   have c4b0 : (a0_4.toList == ([] : List UInt8)) = false := beq_eq_false_iff_ne.mpr c4
   have c4b1 : (a0_4.toList != ([] : List UInt8)) = true := bne_iff_ne.mpr c4
   (first | rw [c4b0] | (simp only [i64_w, i32_w]; rw [c4b0]) | skip)
   by_cases c6 : a0_0 = 1
   ·rw [if_pos c6] at H
    have c6b0 : (a0_0 == 1) = true := beq_iff_eq.mpr c6
    have c6b1 : (a0_0 != 1) = false := bne_eq_false_iff_eq.mpr c6
    clear c6
    replace H := Option.bind_eq_some_iff.mp H
    obtain ⟨t102, A70, H⟩ := H
    replace H : (step_Right.j0 k (!t102) a0_0 a0_1 a0_2 a0_3 a0_4) = some r := H
    have A7 := Ax.mk A70
    clear A70
    have H' := Ax.mk H
    clear H
    have hcz8_0 : w3.cell? ⟨gb101, 0, none⟩ = some (.int .i64 a0_0) := (bC BK101.out 0).trans rfl
    have hcz8_1 : w3.cell? ⟨gb101, 1, none⟩ = some (.int .i64 a0_1) := (bC BK101.out 1).trans rfl
    have hcz8_2 : w3.cell? ⟨gb101, 2, none⟩ = some (.int .i64 a0_2) := (bC BK101.out 2).trans rfl
    have hcz8_3 : w3.cell? ⟨gb101, 3, none⟩ = some (.int .u64 a0_3) := (bC BK101.out 3).trans rfl
    have hcz8_4 : w3.cell? ⟨gb101, 4, none⟩ = some (.string a0_4) := (bC BK101.out 4).trans rfl
    have hfz8_0 := bF BK101.out 0
    have hfz8_1 := bF BK101.out 1
    have hfz8_2 := bF BK101.out 2
    have hfz8_3 := bF BK101.out 3
    have hfz8_4 := bF BK101.out 4
    go_wp2_with (first | (go_at_call 50; (with_reducible refine (label_Right.calls a0_4 t102 _ A7.out (HT.below bA)).mono ?_); rintro e w9 ⟨rfl, hb⟩; have n0_ := Ax.mk (bB (bT BK101.out) hb); have n1_ := Ax.mk (bP bA hb); clear BK101; clear HB; have BK101 := n0_; have HB := n1_; clear n0_ n1_; (try clear hb); (try clear hb2); (try clear hk); (try clear hi)))
    go_meet
    case rel => exact ⟨_, (!t102), (by first | rfl | (simp; done) | (simp [*]; done)), H', ⟨by first | omega | exact Nat.le_refl _⟩, ⟨by refine bT ?_; exact BK101.out⟩, ⟨bA⟩⟩
   ·rw [if_neg c6] at H
    have c6b0 : (a0_0 == 1) = false := beq_eq_false_iff_ne.mpr c6
    have c6b1 : (a0_0 != 1) = true := bne_iff_ne.mpr c6
    have H' := Ax.mk H
    clear H
    have hcz10_0 : w3.cell? ⟨gb101, 0, none⟩ = some (.int .i64 a0_0) := (bC BK101.out 0).trans rfl
    have hcz10_1 : w3.cell? ⟨gb101, 1, none⟩ = some (.int .i64 a0_1) := (bC BK101.out 1).trans rfl
    have hcz10_2 : w3.cell? ⟨gb101, 2, none⟩ = some (.int .i64 a0_2) := (bC BK101.out 2).trans rfl
    have hcz10_3 : w3.cell? ⟨gb101, 3, none⟩ = some (.int .u64 a0_3) := (bC BK101.out 3).trans rfl
    have hcz10_4 : w3.cell? ⟨gb101, 4, none⟩ = some (.string a0_4) := (bC BK101.out 4).trans rfl
    have hfz10_0 := bF BK101.out 0
    have hfz10_1 := bF BK101.out 1
    have hfz10_2 := bF BK101.out 2
    have hfz10_3 := bF BK101.out 3
    have hfz10_4 := bF BK101.out 4
    go_wp2
    go_meet
    case rel => exact ⟨_, (true), (by first | rfl | (simp; done) | (simp [*]; done)), H', ⟨by first | omega | exact Nat.le_refl _⟩, ⟨by refine bT ?_; exact BK101.out⟩, ⟨bA⟩⟩
 case rest =>
  clear HC2
  try clear c2
  try clear p2
  try clear c4
  try clear c4b0
  try clear c4b1
  try clear c6
  try clear c6b0
  try clear c6b1
  try clear hcz10_0
  try clear hcz10_1
  try clear hcz10_2
  try clear hcz10_3
  try clear hcz10_4
  try clear hcz5_0
  try clear hcz5_1
  try clear hcz5_2
  try clear hcz5_3
  try clear hcz5_4
  try clear hcz8_0
  try clear hcz8_1
  try clear hcz8_2
  try clear hcz8_3
  try clear hcz8_4
  try clear hfz10_0
  try clear hfz10_1
  try clear hfz10_2
  try clear hfz10_3
  try clear hfz10_4
  try clear hfz5_0
  try clear hfz5_1
  try clear hfz5_2
  try clear hfz5_3
  try clear hfz5_4
  try clear hfz8_0
  try clear hfz8_1
  try clear hfz8_2
  try clear hfz8_3
  try clear hfz8_4
  obtain ⟨kq, x16_1, rfl, HA, HJ1, BK101, HB⟩ := hcut
  cases kq with
  | zero => exact absurd HA.out (by simp [step_Right.j0])
  | succ kj1 =>
   have H := HA.out
   clear HA
   simp only [step_Right.j0] at H
   by_cases c11 : x16_1 = true
   ·subst c11
    have H1 : (some false) = some r := by rw [if_pos rfl] at H; exact H
    clear H
    have H := H1
    clear H1
    obtain rfl := Option.some.inj H
    go_wp2
    go_ret
    exact ⟨by first | rfl | (simp [errW_none, errW_some] <;> rfl) | (simp [*, errW_none, errW_some] <;> rfl), bA⟩
   ·replace c11 := Bool.eq_false_iff.mpr c11
    subst c11
    have H1 : (if a0_0 ≥ 1 then (if a0_0 ≤ 8 then ((step_number.f a0_1).bind fun t103 => (if t103 = true then ((step_number.f a0_2).bind fun t104 => (some t104)) else (some false))) else (some false)) else (some false)) = some r := by rw [if_neg (show ¬ (false = true) by decide)] at H; exact H
    clear H
    have H := H1
    clear H1
    by_cases c12 : a0_0 ≥ 1
    ·rw [if_pos c12] at H
     have c12b0 : decide (1 ≤ a0_0) = true := decide_eq_true c12
     clear c12
     by_cases c13 : a0_0 ≤ 8
     ·rw [if_pos c13] at H
      have c13b0 : decide (a0_0 ≤ 8) = true := decide_eq_true c13
      clear c13
      replace H := Option.bind_eq_some_iff.mp H
      obtain ⟨t103, A140, H⟩ := H
      replace H : (if t103 = true then ((step_number.f a0_2).bind fun t104 => (some t104)) else (some false)) = some r := H
      have A14 := Ax.mk A140
      clear A140
      by_cases c15 : t103 = true
      ·subst c15
       have H1 : ((step_number.f a0_2).bind fun t104 => (some t104)) = some r := by rw [if_pos rfl] at H; exact H
       clear H
       have H := H1
       clear H1
       replace H := Option.bind_eq_some_iff.mp H
       obtain ⟨t104, A160, H⟩ := H
       replace H : (some t104) = some r := H
       have A16 := Ax.mk A160
       clear A160
       obtain rfl := Option.some.inj H
       have hcz17_0 : wc.cell? ⟨gb101, 0, none⟩ = some (.int .i64 a0_0) := (bC BK101.out 0).trans rfl
       have hcz17_1 : wc.cell? ⟨gb101, 1, none⟩ = some (.int .i64 a0_1) := (bC BK101.out 1).trans rfl
       have hcz17_2 : wc.cell? ⟨gb101, 2, none⟩ = some (.int .i64 a0_2) := (bC BK101.out 2).trans rfl
       have hcz17_3 : wc.cell? ⟨gb101, 3, none⟩ = some (.int .u64 a0_3) := (bC BK101.out 3).trans rfl
       have hcz17_4 : wc.cell? ⟨gb101, 4, none⟩ = some (.string a0_4) := (bC BK101.out 4).trans rfl
       have hfz17_0 := bF BK101.out 0
       have hfz17_1 := bF BK101.out 1
       have hfz17_2 := bF BK101.out 2
       have hfz17_3 := bF BK101.out 3
       have hfz17_4 := bF BK101.out 4
       go_wp2_with (first | (go_at_call 51; (with_reducible refine (step_number.calls a0_1 true _ A14.out).mono ?_); rintro e w' ⟨rfl, ⟨nd, rfl⟩⟩) | (go_at_call 51; (with_reducible refine (step_number.calls a0_2 t104 _ A16.out).mono ?_); rintro e w' ⟨rfl, ⟨nd, rfl⟩⟩))
       go_ret
       exact ⟨by first | rfl | (simp [errW_none, errW_some] <;> rfl) | (simp [*, errW_none, errW_some] <;> rfl), bA⟩
      ·replace c15 := Bool.eq_false_iff.mpr c15
       subst c15
       have H1 : (some false) = some r := by rw [if_neg (show ¬ (false = true) by decide)] at H; exact H
       clear H
       have H := H1
       clear H1
       obtain rfl := Option.some.inj H
       have hcz18_0 : wc.cell? ⟨gb101, 0, none⟩ = some (.int .i64 a0_0) := (bC BK101.out 0).trans rfl
       have hcz18_1 : wc.cell? ⟨gb101, 1, none⟩ = some (.int .i64 a0_1) := (bC BK101.out 1).trans rfl
       have hcz18_2 : wc.cell? ⟨gb101, 2, none⟩ = some (.int .i64 a0_2) := (bC BK101.out 2).trans rfl
       have hcz18_3 : wc.cell? ⟨gb101, 3, none⟩ = some (.int .u64 a0_3) := (bC BK101.out 3).trans rfl
       have hcz18_4 : wc.cell? ⟨gb101, 4, none⟩ = some (.string a0_4) := (bC BK101.out 4).trans rfl
       have hfz18_0 := bF BK101.out 0
       have hfz18_1 := bF BK101.out 1
       have hfz18_2 := bF BK101.out 2
       have hfz18_3 := bF BK101.out 3
       have hfz18_4 := bF BK101.out 4
       go_wp2_with (first | (go_at_call 51; (with_reducible refine (step_number.calls a0_1 false _ A14.out).mono ?_); rintro e w' ⟨rfl, ⟨nd, rfl⟩⟩))
       go_ret
       exact ⟨by first | rfl | (simp [errW_none, errW_some] <;> rfl) | (simp [*, errW_none, errW_some] <;> rfl), bA⟩
     ·rw [if_neg c13] at H
      have c13b0 : decide (a0_0 ≤ 8) = false := decide_eq_false c13
      clear c13
      obtain rfl := Option.some.inj H
      have hcz19_0 : wc.cell? ⟨gb101, 0, none⟩ = some (.int .i64 a0_0) := (bC BK101.out 0).trans rfl
      have hcz19_1 : wc.cell? ⟨gb101, 1, none⟩ = some (.int .i64 a0_1) := (bC BK101.out 1).trans rfl
      have hcz19_2 : wc.cell? ⟨gb101, 2, none⟩ = some (.int .i64 a0_2) := (bC BK101.out 2).trans rfl
      have hcz19_3 : wc.cell? ⟨gb101, 3, none⟩ = some (.int .u64 a0_3) := (bC BK101.out 3).trans rfl
      have hcz19_4 : wc.cell? ⟨gb101, 4, none⟩ = some (.string a0_4) := (bC BK101.out 4).trans rfl
      have hfz19_0 := bF BK101.out 0
      have hfz19_1 := bF BK101.out 1
      have hfz19_2 := bF BK101.out 2
      have hfz19_3 := bF BK101.out 3
      have hfz19_4 := bF BK101.out 4
      go_wp2
      go_ret
      exact ⟨by first | rfl | (simp [errW_none, errW_some] <;> rfl) | (simp [*, errW_none, errW_some] <;> rfl), bA⟩
    ·rw [if_neg c12] at H
     have c12b0 : decide (1 ≤ a0_0) = false := decide_eq_false c12
     clear c12
     obtain rfl := Option.some.inj H
     have hcz20_0 : wc.cell? ⟨gb101, 0, none⟩ = some (.int .i64 a0_0) := (bC BK101.out 0).trans rfl
     have hcz20_1 : wc.cell? ⟨gb101, 1, none⟩ = some (.int .i64 a0_1) := (bC BK101.out 1).trans rfl
     have hcz20_2 : wc.cell? ⟨gb101, 2, none⟩ = some (.int .i64 a0_2) := (bC BK101.out 2).trans rfl
     have hcz20_3 : wc.cell? ⟨gb101, 3, none⟩ = some (.int .u64 a0_3) := (bC BK101.out 3).trans rfl
     have hcz20_4 : wc.cell? ⟨gb101, 4, none⟩ = some (.string a0_4) := (bC BK101.out 4).trans rfl
     have hfz20_0 := bF BK101.out 0
     have hfz20_1 := bF BK101.out 1
     have hfz20_2 := bF BK101.out 2
     have hfz20_3 := bF BK101.out 3
     have hfz20_4 := bF BK101.out 4
     go_wp2
     go_ret
     exact ⟨by first | rfl | (simp [errW_none, errW_some] <;> rfl) | (simp [*, errW_none, errW_some] <;> rfl), bA⟩
def step_Put.f (k : Nat) (a0_0 : Int) (a0_1 : Int) (a0_2 : Int) (a0_3 : Int) (a0_4 : ByteArray) : Option (ByteArray × Int) := (step_Right.f k a0_0 a0_1 a0_2 a0_3 a0_4).bind fun t108 => (if t108 = true then ((le_Put.f (IntKind.u64.wrap (a0_0)) 1).bind fun t109 => ((le_Put.f (IntKind.u64.wrap (a0_1)) 4).bind fun t110 => (if t109.size + t110.size ≤ 9223372036854775807 then ((le_Put.f (IntKind.u64.wrap (a0_2)) 4).bind fun t111 => (if t109.size + t110.size + t111.size ≤ 9223372036854775807 then ((le_Put.f a0_3 8).bind fun t112 => (if t109.size + t110.size + t111.size + t112.size ≤ 9223372036854775807 then (if t109.size + t110.size + t111.size + t112.size + a0_4.size ≤ 9223372036854775807 then ((seal_Put.f ((((t109 ++ t110) ++ t111) ++ t112) ++ a0_4)).bind fun t113 => ((le_Put.f (IntKind.u64.wrap ((t113.size : Int))) 2).bind fun t114 => (if t114.size + t113.size ≤ 9223372036854775807 then (some (t114 ++ t113, 0)) else (none)))) else (none)) else (none))) else (none))) else (none)))) else (some ((⟨#[]⟩ : ByteArray), 1)))
theorem step_Put.mono : ∀ a0 a1 a2 a3 a4 k, LeO (step_Put.f k a0 a1 a2 a3 a4) (step_Put.f (k + 1) a0 a1 a2 a3 a4) := by
 intro a0 a1 a2 a3 a4 k
 unfold step_Put.f
 repeat' first
   | (with_reducible exact step_Right.mono _ _ _ _ _ _)
   | (with_reducible exact LeO.refl _)
   | (with_reducible exact LeO.none _)
   | (with_reducible refine LeO.ite ?_ ?_)
   | (with_reducible refine LeO.bind ?_ (fun _ => ?_))
   | exact step_Right.mono _ _ _ _ _ _
   | exact LeO.none _
   | refine LeO.ite ?_ ?_
   | refine LeO.bind ?_ (fun _ => ?_)
def step_Put.T3 : Bool × List (List Nat × List Nat) := (true, [([], []), ([0], [0]), ([1], [1]), ([2], [2]), ([], []), ([4], [4]), ([5], [5]), ([6, 3], [6]), ([3, 7], [3, 7]), ([], []), ([9], [9]), ([10], [10]), ([11, 7], [11]), ([8, 12], [8, 12]), ([], []), ([14], [14]), ([15, 12], [15]), ([13, 16], [13, 16]), ([], []), ([18], [18]), ([17, 19], [17, 19]), ([20, 16], [20]), ([21, 21, 0, 1, 2, 3, 4, 5, 6, 7, 8, 9, 10, 11, 12, 13, 14, 15, 16, 17, 18, 19, 20, 21], [21])])
def step_Put.B3 : List Nat := [0, 1, 3, 7, 0, 16, 48, 127, 255, 0, 512, 1536, 3839, 8191, 0, 16384, 57087, 131071, 0, 262144, 1048575, 2097151, 4194303]
theorem step_Put.tab3 : rtab .any (opsOf Tryd.f19 3) = step_Put.T3 := by kernel_rfl
theorem step_Put.bits3 : waitsOk step_Put.T3.2 step_Put.B3 = true := by kernel_rfl
set_option maxHeartbeats 8000000 in
set_option maxRecDepth 100000 in
theorem step_Put.calls (k : Nat) (a0_0 : Int) (a0_1 : Int) (a0_2 : Int) (a0_3 : Int) (a0_4 : ByteArray) (r1 : ByteArray) (r2 : Int) (w : World) (h : step_Put.f k a0_0 a0_1 a0_2 a0_3 a0_4 = some (r1, r2)) (HT : Tabs w) :
  Calls Tryd.prog 19 #[.agg #[.int .i64 a0_0, .int .i64 a0_1, .int .i64 a0_2, .int .u64 a0_3, .string a0_4]] w fun e w' => e = .returned (.tuple #[.string r1, .int .i64 r2]) ∧ Below w.heap.size w w' := by
 have hu24 := Tryd.underlying24
 have HB := Ax.mk (Below.refl w.heap.size w)
 have H : ((step_Right.f k a0_0 a0_1 a0_2 a0_3 a0_4).bind fun t108 => (if t108 = true then ((le_Put.f (IntKind.u64.wrap (a0_0)) 1).bind fun t109 => ((le_Put.f (IntKind.u64.wrap (a0_1)) 4).bind fun t110 => (if t109.size + t110.size ≤ 9223372036854775807 then ((le_Put.f (IntKind.u64.wrap (a0_2)) 4).bind fun t111 => (if t109.size + t110.size + t111.size ≤ 9223372036854775807 then ((le_Put.f a0_3 8).bind fun t112 => (if t109.size + t110.size + t111.size + t112.size ≤ 9223372036854775807 then (if t109.size + t110.size + t111.size + t112.size + a0_4.size ≤ 9223372036854775807 then ((seal_Put.f ((((t109 ++ t110) ++ t111) ++ t112) ++ a0_4)).bind fun t113 => ((le_Put.f (IntKind.u64.wrap ((t113.size : Int))) 2).bind fun t114 => (if t114.size + t113.size ≤ 9223372036854775807 then (some (t114 ++ t113, 0)) else (none)))) else (none)) else (none))) else (none))) else (none)))) else (some ((⟨#[]⟩ : ByteArray), 1)))) = some (r1, r2) := h
 clear h
 replace H := Option.bind_eq_some_iff.mp H
 obtain ⟨t108, A20, H⟩ := H
 replace H : (if t108 = true then ((le_Put.f (IntKind.u64.wrap (a0_0)) 1).bind fun t109 => ((le_Put.f (IntKind.u64.wrap (a0_1)) 4).bind fun t110 => (if t109.size + t110.size ≤ 9223372036854775807 then ((le_Put.f (IntKind.u64.wrap (a0_2)) 4).bind fun t111 => (if t109.size + t110.size + t111.size ≤ 9223372036854775807 then ((le_Put.f a0_3 8).bind fun t112 => (if t109.size + t110.size + t111.size + t112.size ≤ 9223372036854775807 then (if t109.size + t110.size + t111.size + t112.size + a0_4.size ≤ 9223372036854775807 then ((seal_Put.f ((((t109 ++ t110) ++ t111) ++ t112) ++ a0_4)).bind fun t113 => ((le_Put.f (IntKind.u64.wrap ((t113.size : Int))) 2).bind fun t114 => (if t114.size + t113.size ≤ 9223372036854775807 then (some (t114 ++ t113, 0)) else (none)))) else (none)) else (none))) else (none))) else (none)))) else (some ((⟨#[]⟩ : ByteArray), 1))) = some (r1, r2) := H
 have A2 := Ax.mk A20
 clear A20
 by_cases c3 : t108 = true
 ·subst c3
  have H1 : ((le_Put.f (IntKind.u64.wrap (a0_0)) 1).bind fun t109 => ((le_Put.f (IntKind.u64.wrap (a0_1)) 4).bind fun t110 => (if t109.size + t110.size ≤ 9223372036854775807 then ((le_Put.f (IntKind.u64.wrap (a0_2)) 4).bind fun t111 => (if t109.size + t110.size + t111.size ≤ 9223372036854775807 then ((le_Put.f a0_3 8).bind fun t112 => (if t109.size + t110.size + t111.size + t112.size ≤ 9223372036854775807 then (if t109.size + t110.size + t111.size + t112.size + a0_4.size ≤ 9223372036854775807 then ((seal_Put.f ((((t109 ++ t110) ++ t111) ++ t112) ++ a0_4)).bind fun t113 => ((le_Put.f (IntKind.u64.wrap ((t113.size : Int))) 2).bind fun t114 => (if t114.size + t113.size ≤ 9223372036854775807 then (some (t114 ++ t113, 0)) else (none)))) else (none)) else (none))) else (none))) else (none)))) = some (r1, r2) := by rw [if_pos rfl] at H; exact H
  clear H
  have H := H1
  clear H1
  replace H := Option.bind_eq_some_iff.mp H
  obtain ⟨t109, A40, H⟩ := H
  replace H : ((le_Put.f (IntKind.u64.wrap (a0_1)) 4).bind fun t110 => (if t109.size + t110.size ≤ 9223372036854775807 then ((le_Put.f (IntKind.u64.wrap (a0_2)) 4).bind fun t111 => (if t109.size + t110.size + t111.size ≤ 9223372036854775807 then ((le_Put.f a0_3 8).bind fun t112 => (if t109.size + t110.size + t111.size + t112.size ≤ 9223372036854775807 then (if t109.size + t110.size + t111.size + t112.size + a0_4.size ≤ 9223372036854775807 then ((seal_Put.f ((((t109 ++ t110) ++ t111) ++ t112) ++ a0_4)).bind fun t113 => ((le_Put.f (IntKind.u64.wrap ((t113.size : Int))) 2).bind fun t114 => (if t114.size + t113.size ≤ 9223372036854775807 then (some (t114 ++ t113, 0)) else (none)))) else (none)) else (none))) else (none))) else (none))) = some (r1, r2) := H
  have A4 := Ax.mk A40
  clear A40
  replace H := Option.bind_eq_some_iff.mp H
  obtain ⟨t110, A50, H⟩ := H
  replace H : (if t109.size + t110.size ≤ 9223372036854775807 then ((le_Put.f (IntKind.u64.wrap (a0_2)) 4).bind fun t111 => (if t109.size + t110.size + t111.size ≤ 9223372036854775807 then ((le_Put.f a0_3 8).bind fun t112 => (if t109.size + t110.size + t111.size + t112.size ≤ 9223372036854775807 then (if t109.size + t110.size + t111.size + t112.size + a0_4.size ≤ 9223372036854775807 then ((seal_Put.f ((((t109 ++ t110) ++ t111) ++ t112) ++ a0_4)).bind fun t113 => ((le_Put.f (IntKind.u64.wrap ((t113.size : Int))) 2).bind fun t114 => (if t114.size + t113.size ≤ 9223372036854775807 then (some (t114 ++ t113, 0)) else (none)))) else (none)) else (none))) else (none))) else (none)) = some (r1, r2) := H
  have A5 := Ax.mk A50
  clear A50
  by_cases c6 : t109.size + t110.size ≤ 9223372036854775807
  ·rw [if_pos c6] at H
   have c6b0 := eq_true c6
   have c6b1 : decide (t109.size + t110.size ≤ 9223372036854775807) = true := decide_eq_true c6
   try have c6b2 : (9223372036854775807 < t109.size + t110.size) = False := eq_false (Nat.not_lt.2 c6)
   replace H := Option.bind_eq_some_iff.mp H
   obtain ⟨t111, A70, H⟩ := H
   replace H : (if t109.size + t110.size + t111.size ≤ 9223372036854775807 then ((le_Put.f a0_3 8).bind fun t112 => (if t109.size + t110.size + t111.size + t112.size ≤ 9223372036854775807 then (if t109.size + t110.size + t111.size + t112.size + a0_4.size ≤ 9223372036854775807 then ((seal_Put.f ((((t109 ++ t110) ++ t111) ++ t112) ++ a0_4)).bind fun t113 => ((le_Put.f (IntKind.u64.wrap ((t113.size : Int))) 2).bind fun t114 => (if t114.size + t113.size ≤ 9223372036854775807 then (some (t114 ++ t113, 0)) else (none)))) else (none)) else (none))) else (none)) = some (r1, r2) := H
   have A7 := Ax.mk A70
   clear A70
   by_cases c8 : t109.size + t110.size + t111.size ≤ 9223372036854775807
   ·rw [if_pos c8] at H
    have c8b0 := eq_true c8
    have c8b1 : decide (t109.size + t110.size + t111.size ≤ 9223372036854775807) = true := decide_eq_true c8
    try have c8b2 : (9223372036854775807 < t109.size + t110.size + t111.size) = False := eq_false (Nat.not_lt.2 c8)
    replace H := Option.bind_eq_some_iff.mp H
    obtain ⟨t112, A90, H⟩ := H
    replace H : (if t109.size + t110.size + t111.size + t112.size ≤ 9223372036854775807 then (if t109.size + t110.size + t111.size + t112.size + a0_4.size ≤ 9223372036854775807 then ((seal_Put.f ((((t109 ++ t110) ++ t111) ++ t112) ++ a0_4)).bind fun t113 => ((le_Put.f (IntKind.u64.wrap ((t113.size : Int))) 2).bind fun t114 => (if t114.size + t113.size ≤ 9223372036854775807 then (some (t114 ++ t113, 0)) else (none)))) else (none)) else (none)) = some (r1, r2) := H
    have A9 := Ax.mk A90
    clear A90
    by_cases c10 : t109.size + t110.size + t111.size + t112.size ≤ 9223372036854775807
    ·rw [if_pos c10] at H
     have c10b0 := eq_true c10
     have c10b1 : decide (t109.size + t110.size + t111.size + t112.size ≤ 9223372036854775807) = true := decide_eq_true c10
     try have c10b2 : (9223372036854775807 < t109.size + t110.size + t111.size + t112.size) = False := eq_false (Nat.not_lt.2 c10)
     by_cases c11 : t109.size + t110.size + t111.size + t112.size + a0_4.size ≤ 9223372036854775807
     ·rw [if_pos c11] at H
      have c11b0 := eq_true c11
      have c11b1 : decide (t109.size + t110.size + t111.size + t112.size + a0_4.size ≤ 9223372036854775807) = true := decide_eq_true c11
      try have c11b2 : (9223372036854775807 < t109.size + t110.size + t111.size + t112.size + a0_4.size) = False := eq_false (Nat.not_lt.2 c11)
      replace H := Option.bind_eq_some_iff.mp H
      obtain ⟨t113, A120, H⟩ := H
      replace H : ((le_Put.f (IntKind.u64.wrap ((t113.size : Int))) 2).bind fun t114 => (if t114.size + t113.size ≤ 9223372036854775807 then (some (t114 ++ t113, 0)) else (none))) = some (r1, r2) := H
      have A12 := Ax.mk A120
      clear A120
      replace H := Option.bind_eq_some_iff.mp H
      obtain ⟨t114, A130, H⟩ := H
      replace H : (if t114.size + t113.size ≤ 9223372036854775807 then (some (t114 ++ t113, 0)) else (none)) = some (r1, r2) := H
      have A13 := Ax.mk A130
      clear A130
      by_cases c14 : t114.size + t113.size ≤ 9223372036854775807
      ·rw [if_pos c14] at H
       have c14b0 := eq_true c14
       have c14b1 : decide (t114.size + t113.size ≤ 9223372036854775807) = true := decide_eq_true c14
       try have c14b2 : (9223372036854775807 < t114.size + t113.size) = False := eq_false (Nat.not_lt.2 c14)
       simp only [Option.some.injEq, Prod.mk.injEq] at H
       obtain ⟨rfl, rfl⟩ := H
       go_enter Tryd.func19, Tryd.ntmps19
       try go_wp2_with (first | ((with_reducible refine gate_dst (N := 1) rfl ?_); refine box_event ?hg (N := 1) ?hd (cs := #[.int .i64 a0_0, .int .i64 a0_1, .int .i64 a0_2, .int .u64 a0_3, .string a0_4]) (t := 24) ?hr ?_; (case hd => rfl); (case hg => rfl); (case hr => first | (go_simp; done) | (go_simp; rfl)); intro gb107 hg w15 hbox hb; have n0_ := Ax.mk (bP bA hb); have n1_ := Ax.mk (hbox); have n2_ := Ax.mk ((ge_new hg : w.heap.size ≤ gb107)); have n3_ := n2_; clear HB; have HB := n0_; have BK107 := n1_; have GW107 := n2_; have GE107 := n3_; clear n0_ n1_ n2_ n3_; clear hb hbox hg; have hcz16_0 : w15.cell? ⟨gb107, 0, none⟩ = some (.int .i64 a0_0) := (bC BK107.out 0).trans rfl; have hcz16_1 : w15.cell? ⟨gb107, 1, none⟩ = some (.int .i64 a0_1) := (bC BK107.out 1).trans rfl; have hcz16_2 : w15.cell? ⟨gb107, 2, none⟩ = some (.int .i64 a0_2) := (bC BK107.out 2).trans rfl; have hcz16_3 : w15.cell? ⟨gb107, 3, none⟩ = some (.int .u64 a0_3) := (bC BK107.out 3).trans rfl; have hcz16_4 : w15.cell? ⟨gb107, 4, none⟩ = some (.string a0_4) := (bC BK107.out 4).trans rfl; have hfz16_0 := bF BK107.out 0; have hfz16_1 := bF BK107.out 1; have hfz16_2 := bF BK107.out 2; have hfz16_3 := bF BK107.out 3; have hfz16_4 := bF BK107.out 4) | ((with_reducible refine gate_callee (f := 21) rfl ?_); refine goesL_ (some 6) rfl rfl Tryd.func21 (by kernel_rfl) rfl #[.agg #[.int .i64 a0_0, .int .i64 a0_1, .int .i64 a0_2, .int .u64 a0_3, .string a0_4]] rfl (by (try simp only [List.map_toArray, List.map_cons, List.map_nil]); first | done | rfl | (simp only [List.length_drop, List.length_take]; rfl) | (rw [wrap_sum2 (by assumption)]; rfl)) ?_; (with_reducible refine (step_Right.calls k a0_0 a0_1 a0_2 a0_3 a0_4 true _ A2.out (HT.below bA)).mono ?_); rintro e w17 ⟨rfl, hb⟩; refine ⟨_, rfl, ?_⟩; have n0_ := Ax.mk (bB (bT BK107.out) hb); have n1_ := Ax.mk (bP bA hb); clear BK107; clear HB; have BK107 := n0_; have HB := n1_; clear n0_ n1_; (try clear hb); (try clear hb2); (try clear hk); (try clear hi)))
       have n0_ := Ax.mk (blk_drew BK107.out)
       have n1_ := Ax.mk (below_drew1 HB.out)
       clear BK107
       clear HB
       have BK107 := n0_
       have HB := n1_
       clear n0_ n1_
       refine start_ (n := 23) (S := fun w' => w'.cell? ⟨gb107, 0, none⟩ = some (.int .i64 a0_0) ∧ w'.cell? ⟨gb107, 1, none⟩ = some (.int .i64 a0_1) ∧ w'.cell? ⟨gb107, 2, none⟩ = some (.int .i64 a0_2) ∧ w'.cell? ⟨gb107, 3, none⟩ = some (.int .u64 a0_3) ∧ w'.cell? ⟨gb107, 4, none⟩ = some (.string a0_4)) (ds := []) #[false, false, false, false, false, false, false, false, false, false, false, false, false, false, false, false, false, false, false, false, false, false, false] (by kernel_rfl) rfl rfl ⟨(bC BK107.out 0).trans rfl, (bC BK107.out 1).trans rfl, (bC BK107.out 2).trans rfl, (bC BK107.out 3).trans rfl, (bC BK107.out 4).trans rfl⟩ (fun hHeld => ?_); refine with_tabW step_Put.tab3 step_Put.bits3 (fun HT_ HW_ => ?_)
       generalize w17.drew = w18 at BK107 HB hHeld ⊢
       refine pure_ (i := 0) (N := some 8) (v := ?_) (a' := ?_) #[true, false, false, false, false, false, false, false, false, false, false, false, false, false, false, false, false, false, false, false, false, false, false] rfl rfl (any_of HT_.out (by kernel_rfl)) (fun _ _ _ h => h) (Or.inl ⟨by rfl, ?_⟩) ?_ ?_
       rotate_left
       ·intro w'
        go_simp
        with_reducible rfl
       rotate_left
       ·simp only [Act.put, setIfInBounds_toArray, set_cons_zero, set_cons_succ, i64_w, i32_w]
        rfl
       refine pure_ (i := 4) (N := some 12) (v := ?_) (a' := ?_) #[true, false, false, false, true, false, false, false, false, false, false, false, false, false, false, false, false, false, false, false, false, false, false] rfl rfl (any_of HT_.out (by kernel_rfl)) (fun _ _ _ h => h) (Or.inl ⟨by rfl, ?_⟩) ?_ ?_
       rotate_left
       ·intro w'
        go_simp
        with_reducible rfl
       rotate_left
       ·simp only [Act.put, setIfInBounds_toArray, set_cons_zero, set_cons_succ, i64_w, i32_w]
        rfl
       refine pure_ (i := 9) (N := some 17) (v := ?_) (a' := ?_) #[true, false, false, false, true, false, false, false, false, true, false, false, false, false, false, false, false, false, false, false, false, false, false] rfl rfl (any_of HT_.out (by kernel_rfl)) (fun _ _ _ h => h) (Or.inl ⟨by rfl, ?_⟩) ?_ ?_
       rotate_left
       ·intro w'
        go_simp
        with_reducible rfl
       rotate_left
       ·simp only [Act.put, setIfInBounds_toArray, set_cons_zero, set_cons_succ, i64_w, i32_w]
        rfl
       refine pure_ (i := 14) (N := some 22) (v := ?_) (a' := ?_) #[true, false, false, false, true, false, false, false, false, true, false, false, false, false, true, false, false, false, false, false, false, false, false] rfl rfl (any_of HT_.out (by kernel_rfl)) (fun _ _ _ h => h) (Or.inl ⟨by rfl, ?_⟩) ?_ ?_
       rotate_left
       ·intro w'
        go_simp
        with_reducible rfl
       rotate_left
       ·simp only [Act.put, setIfInBounds_toArray, set_cons_zero, set_cons_succ, i64_w, i32_w]
        rfl
       refine pure_ (i := 18) (N := some 26) (v := ?_) (a' := ?_) #[true, false, false, false, true, false, false, false, false, true, false, false, false, false, true, false, false, false, true, false, false, false, false] rfl rfl (any_of HT_.out (by kernel_rfl)) (fun _ _ _ h => h) (Or.inl ⟨by rfl, ?_⟩) ?_ ?_
       rotate_left
       ·intro w'
        go_simp
        with_reducible rfl
       rotate_left
       ·simp only [Act.put, setIfInBounds_toArray, set_cons_zero, set_cons_succ, i64_w, i32_w]
        rfl
       refine take_ (i := 1) (N := some 9) (v := ?_) (a' := ?_) #[true, true, false, false, true, false, false, false, false, true, false, false, false, false, true, false, false, false, true, false, false, false, false] rfl rfl (take_ofW HT_.out HW_.out (by kernel_rfl)) (fun _ _ _ h => h) (Or.inl ⟨by rfl, ?_⟩) hHeld ?_ ?_
       rotate_left
       ·rintro w' ⟨s0, s1, s2, s3, s4⟩
        go_simp
        with_reducible rfl
       rotate_left
       ·simp only [Act.put, setIfInBounds_toArray, set_cons_zero, set_cons_succ, i64_w, i32_w]
        rfl
       refine pure_ (i := 2) (N := some 10) (v := ?_) (a' := ?_) #[true, true, true, false, true, false, false, false, false, true, false, false, false, false, true, false, false, false, true, false, false, false, false] rfl rfl (any_of HT_.out (by kernel_rfl)) (fun _ _ _ h => h) (Or.inl ⟨by rfl, ?_⟩) ?_ ?_
       rotate_left
       ·intro w'
        go_simp
        with_reducible rfl
       rotate_left
       ·simp only [Act.put, setIfInBounds_toArray, set_cons_zero, set_cons_succ, i64_w, i32_w]
        rfl
       refine take_ (i := 5) (N := some 13) (v := ?_) (a' := ?_) #[true, true, true, false, true, true, false, false, false, true, false, false, false, false, true, false, false, false, true, false, false, false, false] rfl rfl (take_ofW HT_.out HW_.out (by kernel_rfl)) (fun _ _ _ h => h) (Or.inl ⟨by rfl, ?_⟩) hHeld ?_ ?_
       rotate_left
       ·rintro w' ⟨s0, s1, s2, s3, s4⟩
        go_simp
        with_reducible rfl
       rotate_left
       ·simp only [Act.put, setIfInBounds_toArray, set_cons_zero, set_cons_succ, i64_w, i32_w]
        rfl
       refine pure_ (i := 6) (N := some 14) (v := ?_) (a' := ?_) #[true, true, true, false, true, true, true, false, false, true, false, false, false, false, true, false, false, false, true, false, false, false, false] rfl rfl (any_of HT_.out (by kernel_rfl)) (fun _ _ _ h => h) (Or.inl ⟨by rfl, ?_⟩) ?_ ?_
       rotate_left
       ·intro w'
        go_simp
        with_reducible rfl
       rotate_left
       ·simp only [Act.put, setIfInBounds_toArray, set_cons_zero, set_cons_succ, i64_w, i32_w]
        rfl
       refine take_ (i := 10) (N := some 18) (v := ?_) (a' := ?_) #[true, true, true, false, true, true, true, false, false, true, true, false, false, false, true, false, false, false, true, false, false, false, false] rfl rfl (take_ofW HT_.out HW_.out (by kernel_rfl)) (fun _ _ _ h => h) (Or.inl ⟨by rfl, ?_⟩) hHeld ?_ ?_
       rotate_left
       ·rintro w' ⟨s0, s1, s2, s3, s4⟩
        go_simp
        with_reducible rfl
       rotate_left
       ·simp only [Act.put, setIfInBounds_toArray, set_cons_zero, set_cons_succ, i64_w, i32_w]
        rfl
       refine pure_ (i := 11) (N := some 19) (v := ?_) (a' := ?_) #[true, true, true, false, true, true, true, false, false, true, true, true, false, false, true, false, false, false, true, false, false, false, false] rfl rfl (any_of HT_.out (by kernel_rfl)) (fun _ _ _ h => h) (Or.inl ⟨by rfl, ?_⟩) ?_ ?_
       rotate_left
       ·intro w'
        go_simp
        with_reducible rfl
       rotate_left
       ·simp only [Act.put, setIfInBounds_toArray, set_cons_zero, set_cons_succ, i64_w, i32_w]
        rfl
       refine take_ (i := 15) (N := some 23) (v := ?_) (a' := ?_) #[true, true, true, false, true, true, true, false, false, true, true, true, false, false, true, true, false, false, true, false, false, false, false] rfl rfl (take_ofW HT_.out HW_.out (by kernel_rfl)) (fun _ _ _ h => h) (Or.inl ⟨by rfl, ?_⟩) hHeld ?_ ?_
       rotate_left
       ·rintro w' ⟨s0, s1, s2, s3, s4⟩
        go_simp
        with_reducible rfl
       rotate_left
       ·simp only [Act.put, setIfInBounds_toArray, set_cons_zero, set_cons_succ, i64_w, i32_w]
        rfl
       refine take_ (i := 19) (N := some 27) (v := ?_) (a' := ?_) #[true, true, true, false, true, true, true, false, false, true, true, true, false, false, true, true, false, false, true, true, false, false, false] rfl rfl (take_ofW HT_.out HW_.out (by kernel_rfl)) (fun _ _ _ h => h) (Or.inl ⟨by rfl, ?_⟩) hHeld ?_ ?_
       rotate_left
       ·rintro w' ⟨s0, s1, s2, s3, s4⟩
        go_simp
        with_reducible rfl
       rotate_left
       ·simp only [Act.put, setIfInBounds_toArray, set_cons_zero, set_cons_succ, i64_w, i32_w]
        rfl
       refine one_ (i := 3) (N := some 11) #[true, true, true, true, true, true, true, false, false, true, true, true, false, false, true, true, false, false, true, true, false, false, false] rfl rfl (one_of HT_.out (by kernel_rfl)) (by decide) (fun K hK => ?_)
       refine goes_ Tryd.func47 (by kernel_rfl) rfl #[.int .u64 (IntKind.u64.wrap (a0_0)), .int .i64 1] (by rfl) rfl rfl (by (try simp only [List.map_toArray, List.map_cons, List.map_nil]); first | done | rfl | (simp only [List.length_drop, List.length_take]; rfl) | (rw [wrap_sum2 (by assumption)]; rfl)) ?_
       with_reducible refine (le_Put.calls (IntKind.u64.wrap (a0_0)) 1 t109 _ A4.out).mono ?_
       rintro e w19 ⟨rfl, hb⟩
       refine ⟨_, rfl, ?_⟩
       have n0_ := Ax.mk (bB (bT BK107.out) hb)
       have n1_ := Ax.mk (bP bA hb)
       clear BK107
       clear HB
       have BK107 := n0_
       have HB := n1_
       clear n0_ n1_
       (try clear hb)
       (try clear hb2)
       (try clear hk)
       (try clear hi)
       refine hK.out _ _ ⟨(bC BK107.out 0).trans rfl, (bC BK107.out 1).trans rfl, (bC BK107.out 2).trans rfl, (bC BK107.out 3).trans rfl, (bC BK107.out 4).trans rfl⟩ (fun hHeld => ?_)
       clear hK K
       refine norm_ (a' := ?_) ?_ ?_
       rotate_left
       ·show Act.put _ (some 11) _ = _
        simp only [Act.put, setIfInBounds_toArray, set_cons_zero, set_cons_succ, i64_w, i32_w]
        rfl
       refine one_ (i := 7) (N := some 15) #[true, true, true, true, true, true, true, true, false, true, true, true, false, false, true, true, false, false, true, true, false, false, false] rfl rfl (one_of HT_.out (by kernel_rfl)) (by decide) (fun K hK => ?_)
       refine goes_ Tryd.func47 (by kernel_rfl) rfl #[.int .u64 (IntKind.u64.wrap (a0_1)), .int .i64 4] (by rfl) rfl rfl (by (try simp only [List.map_toArray, List.map_cons, List.map_nil]); first | done | rfl | (simp only [List.length_drop, List.length_take]; rfl) | (rw [wrap_sum2 (by assumption)]; rfl)) ?_
       with_reducible refine (le_Put.calls (IntKind.u64.wrap (a0_1)) 4 t110 _ A5.out).mono ?_
       rintro e w20 ⟨rfl, hb⟩
       refine ⟨_, rfl, ?_⟩
       have n0_ := Ax.mk (bB (bT BK107.out) hb)
       have n1_ := Ax.mk (bP bA hb)
       clear BK107
       clear HB
       have BK107 := n0_
       have HB := n1_
       clear n0_ n1_
       (try clear hb)
       (try clear hb2)
       (try clear hk)
       (try clear hi)
       refine hK.out _ _ ⟨(bC BK107.out 0).trans rfl, (bC BK107.out 1).trans rfl, (bC BK107.out 2).trans rfl, (bC BK107.out 3).trans rfl, (bC BK107.out 4).trans rfl⟩ (fun hHeld => ?_)
       clear hK K
       refine norm_ (a' := ?_) ?_ ?_
       rotate_left
       ·show Act.put _ (some 15) _ = _
        simp only [Act.put, setIfInBounds_toArray, set_cons_zero, set_cons_succ, i64_w, i32_w]
        rfl
       refine pure_ (i := 8) (N := some 16) (v := ?_) (a' := ?_) #[true, true, true, true, true, true, true, true, true, true, true, true, false, false, true, true, false, false, true, true, false, false, false] rfl rfl (any_of HT_.out (by kernel_rfl)) (fun _ _ _ h => h) (Or.inl ⟨by rfl, ?_⟩) ?_ ?_
       rotate_left
       ·intro w'
        go_simp
        with_reducible rfl
       rotate_left
       ·simp only [Act.put, setIfInBounds_toArray, set_cons_zero, set_cons_succ, i64_w, i32_w]
        rfl
       refine one_ (i := 12) (N := some 20) #[true, true, true, true, true, true, true, true, true, true, true, true, true, false, true, true, false, false, true, true, false, false, false] rfl rfl (one_of HT_.out (by kernel_rfl)) (by decide) (fun K hK => ?_)
       refine goes_ Tryd.func47 (by kernel_rfl) rfl #[.int .u64 (IntKind.u64.wrap (a0_2)), .int .i64 4] (by rfl) rfl rfl (by (try simp only [List.map_toArray, List.map_cons, List.map_nil]); first | done | rfl | (simp only [List.length_drop, List.length_take]; rfl) | (rw [wrap_sum2 (by assumption)]; rfl)) ?_
       with_reducible refine (le_Put.calls (IntKind.u64.wrap (a0_2)) 4 t111 _ A7.out).mono ?_
       rintro e w21 ⟨rfl, hb⟩
       refine ⟨_, rfl, ?_⟩
       have n0_ := Ax.mk (bB (bT BK107.out) hb)
       have n1_ := Ax.mk (bP bA hb)
       clear BK107
       clear HB
       have BK107 := n0_
       have HB := n1_
       clear n0_ n1_
       (try clear hb)
       (try clear hb2)
       (try clear hk)
       (try clear hi)
       refine hK.out _ _ ⟨(bC BK107.out 0).trans rfl, (bC BK107.out 1).trans rfl, (bC BK107.out 2).trans rfl, (bC BK107.out 3).trans rfl, (bC BK107.out 4).trans rfl⟩ (fun hHeld => ?_)
       clear hK K
       refine norm_ (a' := ?_) ?_ ?_
       rotate_left
       ·show Act.put _ (some 20) _ = _
        simp only [Act.put, setIfInBounds_toArray, set_cons_zero, set_cons_succ, i64_w, i32_w]
        rfl
       refine pure_ (i := 13) (N := some 21) (v := ?_) (a' := ?_) #[true, true, true, true, true, true, true, true, true, true, true, true, true, true, true, true, false, false, true, true, false, false, false] rfl rfl (any_of HT_.out (by kernel_rfl)) (fun _ _ _ h => h) (Or.inl ⟨by rfl, ?_⟩) ?_ ?_
       rotate_left
       ·intro w'
        go_simp
        with_reducible rfl
       rotate_left
       ·simp only [Act.put, setIfInBounds_toArray, set_cons_zero, set_cons_succ, i64_w, i32_w]
        rfl
       refine one_ (i := 16) (N := some 24) #[true, true, true, true, true, true, true, true, true, true, true, true, true, true, true, true, true, false, true, true, false, false, false] rfl rfl (one_of HT_.out (by kernel_rfl)) (by decide) (fun K hK => ?_)
       refine goes_ Tryd.func47 (by kernel_rfl) rfl #[.int .u64 a0_3, .int .i64 8] (by rfl) rfl rfl (by (try simp only [List.map_toArray, List.map_cons, List.map_nil]); first | done | rfl | (simp only [List.length_drop, List.length_take]; rfl) | (rw [wrap_sum2 (by assumption)]; rfl)) ?_
       with_reducible refine (le_Put.calls a0_3 8 t112 _ A9.out).mono ?_
       rintro e w22 ⟨rfl, hb⟩
       refine ⟨_, rfl, ?_⟩
       have n0_ := Ax.mk (bB (bT BK107.out) hb)
       have n1_ := Ax.mk (bP bA hb)
       clear BK107
       clear HB
       have BK107 := n0_
       have HB := n1_
       clear n0_ n1_
       (try clear hb)
       (try clear hb2)
       (try clear hk)
       (try clear hi)
       refine hK.out _ _ ⟨(bC BK107.out 0).trans rfl, (bC BK107.out 1).trans rfl, (bC BK107.out 2).trans rfl, (bC BK107.out 3).trans rfl, (bC BK107.out 4).trans rfl⟩ (fun hHeld => ?_)
       clear hK K
       refine norm_ (a' := ?_) ?_ ?_
       rotate_left
       ·show Act.put _ (some 24) _ = _
        simp only [Act.put, setIfInBounds_toArray, set_cons_zero, set_cons_succ, i64_w, i32_w]
        rfl
       refine pure_ (i := 17) (N := some 25) (v := ?_) (a' := ?_) #[true, true, true, true, true, true, true, true, true, true, true, true, true, true, true, true, true, true, true, true, false, false, false] rfl rfl (any_of HT_.out (by kernel_rfl)) (fun _ _ _ h => h) (Or.inl ⟨by rfl, ?_⟩) ?_ ?_
       rotate_left
       ·intro w'
        go_simp
        with_reducible rfl
       rotate_left
       ·simp only [Act.put, setIfInBounds_toArray, set_cons_zero, set_cons_succ, i64_w, i32_w]
        rfl
       refine pure_ (i := 20) (N := some 28) (v := ?_) (a' := ?_) #[true, true, true, true, true, true, true, true, true, true, true, true, true, true, true, true, true, true, true, true, true, false, false] rfl rfl (any_of HT_.out (by kernel_rfl)) (fun _ _ _ h => h) (Or.inl ⟨by rfl, ?_⟩) ?_ ?_
       rotate_left
       ·intro w'
        go_simp
        with_reducible rfl
       rotate_left
       ·simp only [Act.put, setIfInBounds_toArray, set_cons_zero, set_cons_succ, i64_w, i32_w]
        rfl
       refine one_ (i := 21) (N := some 29) #[true, true, true, true, true, true, true, true, true, true, true, true, true, true, true, true, true, true, true, true, true, true, false] rfl rfl (one_of HT_.out (by kernel_rfl)) (by decide) (fun K hK => ?_)
       refine goes_ Tryd.func46 (by kernel_rfl) rfl #[.string ((((t109 ++ t110) ++ t111) ++ t112) ++ a0_4)] (by rfl) rfl rfl (by (try simp only [List.map_toArray, List.map_cons, List.map_nil]); first | done | rfl | (simp only [List.length_drop, List.length_take]; rfl) | (rw [wrap_sum2 (by assumption)]; rfl)) ?_
       with_reducible refine (seal_Put.calls ((((t109 ++ t110) ++ t111) ++ t112) ++ a0_4) t113 _ A12.out).mono ?_
       rintro e w23 ⟨rfl, hb⟩
       refine ⟨_, rfl, ?_⟩
       have n0_ := Ax.mk (bB (bT BK107.out) hb)
       have n1_ := Ax.mk (bP bA hb)
       clear BK107
       clear HB
       have BK107 := n0_
       have HB := n1_
       clear n0_ n1_
       (try clear hb)
       (try clear hb2)
       (try clear hk)
       (try clear hi)
       refine hK.out _ _ ⟨(bC BK107.out 0).trans rfl, (bC BK107.out 1).trans rfl, (bC BK107.out 2).trans rfl, (bC BK107.out 3).trans rfl, (bC BK107.out 4).trans rfl⟩ (fun hHeld => ?_)
       clear hK K
       refine norm_ (a' := ?_) ?_ ?_
       rotate_left
       ·show Act.put _ (some 29) _ = _
        simp only [Act.put, setIfInBounds_toArray, set_cons_zero, set_cons_succ, i64_w, i32_w]
        rfl
       refine pure_ (i := 22) (N := some 4) (v := ?_) (a' := ?_) #[true, true, true, true, true, true, true, true, true, true, true, true, true, true, true, true, true, true, true, true, true, true, true] rfl rfl (any_of HT_.out (by kernel_rfl)) (fun _ _ _ h => h) (Or.inl ⟨by rfl, ?_⟩) ?_ ?_
       rotate_left
       ·intro w'
        go_simp
        with_reducible rfl
       rotate_left
       ·simp only [Act.put, setIfInBounds_toArray, set_cons_zero, set_cons_succ, i64_w, i32_w]
        rfl
       refine done_ (done_of HT_.out (by kernel_rfl)) ?_
       try go_wp2_with (first | ((with_reducible refine gate_callee (f := 47) rfl ?_); refine goesL_ (some 33) rfl rfl Tryd.func47 (by kernel_rfl) rfl #[.int .u64 (IntKind.u64.wrap ((t113.size : Int))), .int .i64 2] rfl (by (try simp only [List.map_toArray, List.map_cons, List.map_nil]); first | done | rfl | (simp only [List.length_drop, List.length_take]; rfl) | (rw [wrap_sum2 (by assumption)]; rfl)) ?_; (with_reducible refine (le_Put.calls (IntKind.u64.wrap ((t113.size : Int))) 2 t114 _ A13.out).mono ?_); rintro e w24 ⟨rfl, hb⟩; refine ⟨_, rfl, ?_⟩; have n0_ := Ax.mk (bB (bT BK107.out) hb); have n1_ := Ax.mk (bP bA hb); clear BK107; clear HB; have BK107 := n0_; have HB := n1_; clear n0_ n1_; (try clear hb); (try clear hb2); (try clear hk); (try clear hi)))
       go_ret2
       exact ⟨by first | rfl | (simp [errW_none, errW_some] <;> rfl) | (simp [*, errW_none, errW_some] <;> rfl), bA⟩
      ·rw [if_neg c14] at H
       exact absurd H (by simp)
     ·rw [if_neg c11] at H
      exact absurd H (by simp)
    ·rw [if_neg c10] at H
     exact absurd H (by simp)
   ·rw [if_neg c8] at H
    exact absurd H (by simp)
  ·rw [if_neg c6] at H
   exact absurd H (by simp)
 ·replace c3 := Bool.eq_false_iff.mpr c3
  subst c3
  have H1 : (some ((⟨#[]⟩ : ByteArray), 1)) = some (r1, r2) := by rw [if_neg (show ¬ (false = true) by decide)] at H; exact H
  clear H
  have H := H1
  clear H1
  simp only [Option.some.injEq, Prod.mk.injEq] at H
  obtain ⟨rfl, rfl⟩ := H
  go_enter Tryd.func19, Tryd.ntmps19
  go_wp2_with (first | ((with_reducible refine gate_dst (N := 1) rfl ?_); refine box_event ?hg (N := 1) ?hd (cs := #[.int .i64 a0_0, .int .i64 a0_1, .int .i64 a0_2, .int .u64 a0_3, .string a0_4]) (t := 24) ?hr ?_; (case hd => rfl); (case hg => rfl); (case hr => first | (go_simp; done) | (go_simp; rfl)); intro gb107 hg w25 hbox hb; have n0_ := Ax.mk (bP bA hb); have n1_ := Ax.mk (hbox); have n2_ := Ax.mk ((ge_new hg : w.heap.size ≤ gb107)); have n3_ := n2_; clear HB; have HB := n0_; have BK107 := n1_; have GW107 := n2_; have GE107 := n3_; clear n0_ n1_ n2_ n3_; clear hb hbox hg; have hcz26_0 : w25.cell? ⟨gb107, 0, none⟩ = some (.int .i64 a0_0) := (bC BK107.out 0).trans rfl; have hcz26_1 : w25.cell? ⟨gb107, 1, none⟩ = some (.int .i64 a0_1) := (bC BK107.out 1).trans rfl; have hcz26_2 : w25.cell? ⟨gb107, 2, none⟩ = some (.int .i64 a0_2) := (bC BK107.out 2).trans rfl; have hcz26_3 : w25.cell? ⟨gb107, 3, none⟩ = some (.int .u64 a0_3) := (bC BK107.out 3).trans rfl; have hcz26_4 : w25.cell? ⟨gb107, 4, none⟩ = some (.string a0_4) := (bC BK107.out 4).trans rfl; have hfz26_0 := bF BK107.out 0; have hfz26_1 := bF BK107.out 1; have hfz26_2 := bF BK107.out 2; have hfz26_3 := bF BK107.out 3; have hfz26_4 := bF BK107.out 4) | ((with_reducible refine gate_callee (f := 21) rfl ?_); refine goesL_ (some 6) rfl rfl Tryd.func21 (by kernel_rfl) rfl #[.agg #[.int .i64 a0_0, .int .i64 a0_1, .int .i64 a0_2, .int .u64 a0_3, .string a0_4]] rfl (by (try simp only [List.map_toArray, List.map_cons, List.map_nil]); first | done | rfl | (simp only [List.length_drop, List.length_take]; rfl) | (rw [wrap_sum2 (by assumption)]; rfl)) ?_; (with_reducible refine (step_Right.calls k a0_0 a0_1 a0_2 a0_3 a0_4 false _ A2.out (HT.below bA)).mono ?_); rintro e w27 ⟨rfl, hb⟩; refine ⟨_, rfl, ?_⟩; have n0_ := Ax.mk (bB (bT BK107.out) hb); have n1_ := Ax.mk (bP bA hb); clear BK107; clear HB; have BK107 := n0_; have HB := n1_; clear n0_ n1_; (try clear hb); (try clear hb2); (try clear hk); (try clear hi)))
  go_ret2
  exact ⟨by first | rfl | (simp [errW_none, errW_some] <;> rfl) | (simp [*, errW_none, errW_some] <;> rfl), bA⟩
end Go.Proofs.YtboommbclbjlnaaDoor.Fn
end
section
namespace Go.Proofs.YtboommbclbjlnaaDoor.Fn
open Go.RowKit Go.Proofs.YtboommbclbjlnaaDoorW.PrintWords Go.Proofs.YtboommbclbjlnaaDoorW.PrintLast Go.Proofs.YtboommbclbjlnaaDoorW.PrintMore Go.Proofs.YtboommbclbjlnaaDoor.Lf
attribute [local go_sem] max2_int min2_int max_two min_two max_three min_three max_four min_four   -- for this text's walks alone
set_option linter.unusedVariables false
set_option linter.unusedSimpArgs false
def r12_Right.f (k : Nat) (a0_0 : Int) (a0_1 : Int) (a0_2 : Int) (a0_3 : Int) (a0_4 : ByteArray) : Option (Bool) := if a0_4.toList = ([] : List UInt8) then (if a0_0 ≥ 1 then (if a0_0 ≤ 8 then (if a0_1 ≥ 0 then (if a0_1 ≤ 2147483647 then (if a0_2 ≥ 0 then (some (decide (a0_2 ≤ 2147483647))) else (some false)) else (some false)) else (some false)) else (some false)) else (some false)) else (if a0_0 = 1 then ((r1_Right.f k a0_4).bind fun t144 => (if t144 = true then (if a0_0 ≥ 1 then (if a0_0 ≤ 8 then (if a0_1 ≥ 0 then (if a0_1 ≤ 2147483647 then (if a0_2 ≥ 0 then (some (decide (a0_2 ≤ 2147483647))) else (some false)) else (some false)) else (some false)) else (some false)) else (some false)) else (some false))) else (some false))
theorem r12_Right.mono : ∀ a0 a1 a2 a3 a4 k, LeO (r12_Right.f k a0 a1 a2 a3 a4) (r12_Right.f (k + 1) a0 a1 a2 a3 a4) := by
 intro a0 a1 a2 a3 a4 k
 unfold r12_Right.f
 repeat' first
   | (with_reducible exact r1_Right.mono _ _)
   | (with_reducible exact LeO.refl _)
   | (with_reducible exact LeO.none _)
   | (with_reducible refine LeO.ite ?_ ?_)
   | (with_reducible refine LeO.bind ?_ (fun _ => ?_))
   | exact r1_Right.mono _ _
   | exact LeO.none _
   | refine LeO.ite ?_ ?_
   | refine LeO.bind ?_ (fun _ => ?_)
def r12_Put.f (k : Nat) (a0_0 : Int) (a0_1 : Int) (a0_2 : Int) (a0_3 : Int) (a0_4 : ByteArray) : Option (ByteArray × Int) := (r12_Right.f k a0_0 a0_1 a0_2 a0_3 a0_4).bind fun t151 => (if t151 = true then ((r2_Put.f k (IntKind.u64.wrap (a0_0)) 1).bind fun t152 => ((r2_Put.f k (IntKind.u64.wrap (a0_1)) 4).bind fun t153 => (if t152.size + t153.size ≤ 9223372036854775807 then ((r2_Put.f k (IntKind.u64.wrap (a0_2)) 4).bind fun t154 => (if t152.size + t153.size + t154.size ≤ 9223372036854775807 then ((r2_Put.f k a0_3 8).bind fun t155 => (if t152.size + t153.size + t154.size + t155.size ≤ 9223372036854775807 then (if t152.size + t153.size + t154.size + t155.size + a0_4.size ≤ 9223372036854775807 then ((r3_Put.f k ((((t152 ++ t153) ++ t154) ++ t155) ++ a0_4)).bind fun t156 => ((r2_Put.f k (IntKind.u64.wrap ((t156.size : Int))) 2).bind fun t157 => (if t157.size + t156.size ≤ 9223372036854775807 then (some (t157 ++ t156, 0)) else (none)))) else (none)) else (none))) else (none))) else (none)))) else (some ((⟨#[]⟩ : ByteArray), 1)))
theorem r12_Put.mono : ∀ a0 a1 a2 a3 a4 k, LeO (r12_Put.f k a0 a1 a2 a3 a4) (r12_Put.f (k + 1) a0 a1 a2 a3 a4) := by
 intro a0 a1 a2 a3 a4 k
 unfold r12_Put.f
 repeat' first
   | (with_reducible exact r12_Right.mono _ _ _ _ _ _)
   | (with_reducible exact r2_Put.mono _ _ _)
   | (with_reducible exact r3_Put.mono _ _)
   | (with_reducible exact LeO.refl _)
   | (with_reducible exact LeO.none _)
   | (with_reducible refine LeO.ite ?_ ?_)
   | (with_reducible refine LeO.bind ?_ (fun _ => ?_))
   | exact r12_Right.mono _ _ _ _ _ _
   | exact r2_Put.mono _ _ _
   | exact r3_Put.mono _ _
   | exact LeO.none _
   | refine LeO.ite ?_ ?_
   | refine LeO.bind ?_ (fun _ => ?_)
def r12_Put.T4 : Bool × List (List Nat × List Nat) := (true, [([], []), ([0], [0]), ([1], [1]), ([2], [2]), ([], []), ([4], [4]), ([5], [5]), ([6, 3], [6]), ([3, 7], [3, 7]), ([], []), ([9], [9]), ([10], [10]), ([11, 7], [11]), ([8, 12], [8, 12]), ([], []), ([14], [14]), ([15, 12], [15]), ([13, 16], [13, 16]), ([], []), ([18], [18]), ([17, 19], [17, 19]), ([20, 16], [20]), ([21, 21, 0, 1, 2, 3, 4, 5, 6, 7, 8, 9, 10, 11, 12, 13, 14, 15, 16, 17, 18, 19, 20, 21], [21])])
def r12_Put.B4 : List Nat := [0, 1, 3, 7, 0, 16, 48, 127, 255, 0, 512, 1536, 3839, 8191, 0, 16384, 57087, 131071, 0, 262144, 1048575, 2097151, 4194303]
end Go.Proofs.YtboommbclbjlnaaDoor.Fn
end
section
namespace Go.Proofs.YtboommbclbjlnaaDoor.Fn
open Go.RowKit Go.Proofs.YtboommbclbjlnaaDoorW.PrintWords Go.Proofs.YtboommbclbjlnaaDoorW.PrintLast Go.Proofs.YtboommbclbjlnaaDoorW.PrintMore Go.Proofs.YtboommbclbjlnaaDoor.Lf
open List (setIfInBounds_toArray set_cons_zero set_cons_succ)
attribute [local go_sem] max2_int min2_int max_two min_two max_three min_three max_four min_four   -- for this text's walks alone
set_option linter.unusedVariables false
set_option linter.unusedSimpArgs false
def seal_Take.f (a0 : ByteArray) : Option (ByteArray × Int) := if (wrap64 ((a0.size : Int) - 4)) < 0 then (some ((⟨#[]⟩ : ByteArray), 10)) else (if 0 ≤ (wrap64 ((a0.size : Int) - 4)) then (if (wrap64 ((a0.size : Int) - 4)) ≤ (a0.size : Int) then ((le_Get.f (a0.extract ((wrap64 ((a0.size : Int) - 4)) : Int).toNat a0.size)).bind fun t135 => ((seal_Sum.f (a0.extract 0 ((wrap64 ((a0.size : Int) - 4)) : Int).toNat)).bind fun t136 => (if t135 = (IntKind.u64.wrap (t136)) then (some (a0.extract 0 ((wrap64 ((a0.size : Int) - 4)) : Int).toNat, 0)) else (some ((⟨#[]⟩ : ByteArray), 9))))) else (none)) else (none))
def seal_Take.T4 : Bool × List (List Nat × List Nat) := (true, [([], []), ([], []), ([0, 1], [0, 1]), ([2], [2]), ([], []), ([], []), ([4, 5], [4, 5]), ([6, 3], [6]), ([7], [7]), ([3, 8], [3, 8]), ([9, 7], [9])])
def seal_Take.B4 : List Nat := [0, 0, 3, 7, 0, 0, 48, 127, 255, 511, 1023]
theorem seal_Take.tab4 : rtab .any (opsOf Tryd.f56 4) = seal_Take.T4 := by kernel_rfl
theorem seal_Take.bits4 : waitsOk seal_Take.T4.2 seal_Take.B4 = true := by kernel_rfl
set_option maxHeartbeats 8000000 in
set_option maxRecDepth 100000 in
theorem seal_Take.calls (a0 : ByteArray) (r1 : ByteArray) (r2 : Int) (w : World) (h : seal_Take.f a0 = some (r1, r2)) :
  Calls Tryd.prog 56 #[.string a0] w fun e w' => e = .returned (.tuple #[.string r1, .int .i64 r2]) ∧ Below w.heap.size w w' := by
 have HB := Ax.mk (Below.refl w.heap.size w)
 have H : (if (wrap64 ((a0.size : Int) - 4)) < 0 then (some ((⟨#[]⟩ : ByteArray), 10)) else (if 0 ≤ (wrap64 ((a0.size : Int) - 4)) then (if (wrap64 ((a0.size : Int) - 4)) ≤ (a0.size : Int) then ((le_Get.f (a0.extract ((wrap64 ((a0.size : Int) - 4)) : Int).toNat a0.size)).bind fun t135 => ((seal_Sum.f (a0.extract 0 ((wrap64 ((a0.size : Int) - 4)) : Int).toNat)).bind fun t136 => (if t135 = (IntKind.u64.wrap (t136)) then (some (a0.extract 0 ((wrap64 ((a0.size : Int) - 4)) : Int).toNat, 0)) else (some ((⟨#[]⟩ : ByteArray), 9))))) else (none)) else (none))) = some (r1, r2) := h
 clear h
 by_cases c2 : (wrap64 ((a0.size : Int) - 4)) < 0
 ·rw [if_pos c2] at H
  have c2b0 : decide ((wrap64 ((a0.size : Int) - 4)) < 0) = true := decide_eq_true c2
  clear c2
  simp only [Option.some.injEq, Prod.mk.injEq] at H
  obtain ⟨rfl, rfl⟩ := H
  go_enter Tryd.func56, Tryd.ntmps56
  go_wp2
  go_ret2
  exact ⟨by first | rfl | (simp [errW_none, errW_some] <;> rfl) | (simp [*, errW_none, errW_some] <;> rfl), bA⟩
 ·rw [if_neg c2] at H
  have c2b0 : decide ((wrap64 ((a0.size : Int) - 4)) < 0) = false := decide_eq_false c2
  clear c2
  obtain ⟨ji3, hji3⟩ : ∃ j_ : Int, (wrap64 ((a0.size : Int) - 4)) = j_ := ⟨_, rfl⟩
  replace H : (if 0 ≤ (ji3) then (if (ji3) ≤ (a0.size : Int) then ((le_Get.f (a0.extract ((ji3) : Int).toNat a0.size)).bind fun t135 => ((seal_Sum.f (a0.extract 0 ((ji3) : Int).toNat)).bind fun t136 => (if t135 = (IntKind.u64.wrap (t136)) then (some (a0.extract 0 ((ji3) : Int).toNat, 0)) else (some ((⟨#[]⟩ : ByteArray), 9))))) else (none)) else (none)) = some (r1, r2) := by first | (rw [hji3] at H; exact H) | (simp only [hji3] at H ⊢; exact H)
  (try rw [hji3] at c2b0)
  have hji3w : (IntKind.i64.wrap ((a0.size : Int) - 4)) = ji3 := (i64_w _).trans hji3
  by_cases c4 : 0 ≤ (ji3)
  ·rw [if_pos c4] at H
   have c4b0 := eq_true c4
   have c4b1 : decide (0 ≤ (ji3)) = true := decide_eq_true c4
   clear c4
   by_cases c5 : (ji3) ≤ (a0.size : Int)
   ·rw [if_pos c5] at H
    have c5b0 := eq_true c5
    have c5b1 : decide ((ji3) ≤ (a0.size : Int)) = true := decide_eq_true c5
    clear c5
    replace H := Option.bind_eq_some_iff.mp H
    obtain ⟨t135, A60, H⟩ := H
    replace H : ((seal_Sum.f (a0.extract 0 ((ji3) : Int).toNat)).bind fun t136 => (if t135 = (IntKind.u64.wrap (t136)) then (some (a0.extract 0 ((ji3) : Int).toNat, 0)) else (some ((⟨#[]⟩ : ByteArray), 9)))) = some (r1, r2) := H
    have A6 := Ax.mk A60
    clear A60
    have c7b0 := eq_true (of_decide_eq_true (by first | (with_reducible assumption) | assumption) : 0 ≤ (ji3))
    have c8b0 := eq_true (of_decide_eq_true (by first | (with_reducible assumption) | assumption) : (ji3) ≤ (a0.size : Int))
    replace H := Option.bind_eq_some_iff.mp H
    obtain ⟨t136, A90, H⟩ := H
    replace H : (if t135 = (IntKind.u64.wrap (t136)) then (some (a0.extract 0 ((ji3) : Int).toNat, 0)) else (some ((⟨#[]⟩ : ByteArray), 9))) = some (r1, r2) := H
    have A9 := Ax.mk A90
    clear A90
    by_cases c10 : t135 = (IntKind.u64.wrap (t136))
    ·rw [if_pos c10] at H
     have c10b0 : (t135 == (IntKind.u64.wrap (t136))) = true := beq_iff_eq.mpr c10
     have c10b1 : (t135 != (IntKind.u64.wrap (t136))) = false := bne_eq_false_iff_eq.mpr c10
     clear c10
     have c11b0 := eq_true (of_decide_eq_true (by first | (with_reducible assumption) | assumption) : 0 ≤ (ji3))
     have c12b0 := eq_true (of_decide_eq_true (by first | (with_reducible assumption) | assumption) : (ji3) ≤ (a0.size : Int))
     simp only [Option.some.injEq, Prod.mk.injEq] at H
     obtain ⟨rfl, rfl⟩ := H
     go_enter Tryd.func56, Tryd.ntmps56
     try go_wp2
     have n0_ := Ax.mk (below_drew1 HB.out)
     clear HB
     have HB := n0_
     clear n0_
     refine start_ (n := 11) (S := fun w' => True) (ds := []) #[false, false, false, false, false, false, false, false, false, false, false] (by kernel_rfl) rfl rfl trivial (fun hHeld => ?_); refine with_tabW seal_Take.tab4 seal_Take.bits4 (fun HT_ HW_ => ?_)
     generalize w.drew = w13 at HB hHeld ⊢
     refine pure_ (i := 0) (N := some 12) (v := ?_) (a' := ?_) #[true, false, false, false, false, false, false, false, false, false, false] rfl rfl (any_of HT_.out (by kernel_rfl)) (fun _ _ _ h => h) (Or.inl ⟨by rfl, ?_⟩) ?_ ?_
     rotate_left
     ·intro w'
      go_simp
      with_reducible rfl
     rotate_left
     ·simp only [Act.put, setIfInBounds_toArray, set_cons_zero, set_cons_succ, i64_w, i32_w]
      rfl
     refine pure_ (i := 1) (N := some 13) (v := ?_) (a' := ?_) #[true, true, false, false, false, false, false, false, false, false, false] rfl rfl (any_of HT_.out (by kernel_rfl)) (fun _ _ _ h => h) (Or.inl ⟨by rfl, ?_⟩) ?_ ?_
     rotate_left
     ·intro w'
      go_simp
      with_reducible rfl
     rotate_left
     ·simp only [Act.put, setIfInBounds_toArray, set_cons_zero, set_cons_succ, i64_w, i32_w]
      rfl
     refine pure_ (i := 2) (N := some 14) (v := ?_) (a' := ?_) #[true, true, true, false, false, false, false, false, false, false, false] rfl rfl (any_of HT_.out (by kernel_rfl)) (fun _ _ _ h => h) (Or.inl ⟨by rfl, ?_⟩) ?_ ?_
     rotate_left
     ·intro w'
      go_simp
      with_reducible rfl
     rotate_left
     ·simp only [Act.put, setIfInBounds_toArray, set_cons_zero, set_cons_succ, i64_w, i32_w]
      rfl
     refine pure_ (i := 4) (N := some 16) (v := ?_) (a' := ?_) #[true, true, true, false, true, false, false, false, false, false, false] rfl rfl (any_of HT_.out (by kernel_rfl)) (fun _ _ _ h => h) (Or.inl ⟨by rfl, ?_⟩) ?_ ?_
     rotate_left
     ·intro w'
      go_simp
      with_reducible rfl
     rotate_left
     ·simp only [Act.put, setIfInBounds_toArray, set_cons_zero, set_cons_succ, i64_w, i32_w]
      rfl
     refine pure_ (i := 5) (N := some 17) (v := ?_) (a' := ?_) #[true, true, true, false, true, true, false, false, false, false, false] rfl rfl (any_of HT_.out (by kernel_rfl)) (fun _ _ _ h => h) (Or.inl ⟨by rfl, ?_⟩) ?_ ?_
     rotate_left
     ·intro w'
      go_simp
      with_reducible rfl
     rotate_left
     ·simp only [Act.put, setIfInBounds_toArray, set_cons_zero, set_cons_succ, i64_w, i32_w]
      rfl
     refine pure_ (i := 6) (N := some 18) (v := ?_) (a' := ?_) #[true, true, true, false, true, true, true, false, false, false, false] rfl rfl (any_of HT_.out (by kernel_rfl)) (fun _ _ _ h => h) (Or.inl ⟨by rfl, ?_⟩) ?_ ?_
     rotate_left
     ·intro w'
      go_simp
      with_reducible rfl
     rotate_left
     ·simp only [Act.put, setIfInBounds_toArray, set_cons_zero, set_cons_succ, i64_w, i32_w]
      rfl
     refine one_ (i := 3) (N := some 15) #[true, true, true, true, true, true, true, false, false, false, false] rfl rfl (one_of HT_.out (by kernel_rfl)) (by decide) (fun K hK => ?_)
     refine goes_ Tryd.func72 (by kernel_rfl) rfl #[.string (a0.extract ((ji3) : Int).toNat a0.size)] (by rfl) rfl rfl (by (try simp only [List.map_toArray, List.map_cons, List.map_nil]); first | done | (simp only [hji3]; rfl) | rfl | (simp only [List.length_drop, List.length_take]; rfl) | (rw [wrap_sum2 (by assumption)]; rfl)) ?_
     with_reducible refine (le_Get.calls (a0.extract ((ji3) : Int).toNat a0.size) t135 _ A6.out).mono ?_
     rintro e w14 ⟨rfl, hb⟩
     refine ⟨_, rfl, ?_⟩
     have n0_ := Ax.mk (bP bA hb)
     clear HB
     have HB := n0_
     clear n0_
     (try clear hb)
     (try clear hb2)
     (try clear hk)
     (try clear hi)
     refine hK.out _ _ trivial (fun hHeld => ?_)
     clear hK K
     refine norm_ (a' := ?_) ?_ ?_
     rotate_left
     ·show Act.put _ (some 15) _ = _
      simp only [Act.put, setIfInBounds_toArray, set_cons_zero, set_cons_succ, i64_w, i32_w]
      rfl
     refine one_ (i := 7) (N := some 19) #[true, true, true, true, true, true, true, true, false, false, false] rfl rfl (one_of HT_.out (by kernel_rfl)) (by decide) (fun K hK => ?_)
     refine goes_ Tryd.func66 (by kernel_rfl) rfl #[.string (a0.extract 0 ((ji3) : Int).toNat)] (by rfl) rfl rfl (by (try simp only [List.map_toArray, List.map_cons, List.map_nil]); first | done | (simp only [hji3]; rfl) | rfl | (simp only [List.length_drop, List.length_take]; rfl) | (rw [wrap_sum2 (by assumption)]; rfl)) ?_
     with_reducible refine (seal_Sum.calls (a0.extract 0 ((ji3) : Int).toNat) t136 _ A9.out).mono ?_
     rintro e w15 ⟨rfl, hb⟩
     refine ⟨_, rfl, ?_⟩
     have n0_ := Ax.mk (bP bA hb)
     clear HB
     have HB := n0_
     clear n0_
     (try clear hb)
     (try clear hb2)
     (try clear hk)
     (try clear hi)
     refine hK.out _ _ trivial (fun hHeld => ?_)
     clear hK K
     refine norm_ (a' := ?_) ?_ ?_
     rotate_left
     ·show Act.put _ (some 19) _ = _
      simp only [Act.put, setIfInBounds_toArray, set_cons_zero, set_cons_succ, i64_w, i32_w]
      rfl
     refine pure_ (i := 8) (N := some 20) (v := ?_) (a' := ?_) #[true, true, true, true, true, true, true, true, true, false, false] rfl rfl (any_of HT_.out (by kernel_rfl)) (fun _ _ _ h => h) (Or.inl ⟨by rfl, ?_⟩) ?_ ?_
     rotate_left
     ·intro w'
      go_simp
      with_reducible rfl
     rotate_left
     ·simp only [Act.put, setIfInBounds_toArray, set_cons_zero, set_cons_succ, i64_w, i32_w]
      rfl
     refine pure_ (i := 9) (N := some 21) (v := ?_) (a' := ?_) #[true, true, true, true, true, true, true, true, true, true, false] rfl rfl (any_of HT_.out (by kernel_rfl)) (fun _ _ _ h => h) (Or.inl ⟨by rfl, ?_⟩) ?_ ?_
     rotate_left
     ·intro w'
      go_simp
      with_reducible rfl
     rotate_left
     ·simp only [Act.put, setIfInBounds_toArray, set_cons_zero, set_cons_succ, i64_w, i32_w]
      rfl
     refine pure_ (i := 10) (N := some 11) (v := ?_) (a' := ?_) #[true, true, true, true, true, true, true, true, true, true, true] rfl rfl (any_of HT_.out (by kernel_rfl)) (fun _ _ _ h => h) (Or.inl ⟨by rfl, ?_⟩) ?_ ?_
     rotate_left
     ·intro w'
      go_simp
      with_reducible rfl
     rotate_left
     ·simp only [Act.put, setIfInBounds_toArray, set_cons_zero, set_cons_succ, i64_w, i32_w]
      rfl
     refine done_ (done_of HT_.out (by kernel_rfl)) ?_
     try go_wp2
     go_ret2
     exact ⟨by first | rfl | (simp [errW_none, errW_some] <;> rfl) | (simp only [← hji3]; first | rfl | (simp [errW_none, errW_some] <;> rfl)) | (simp [*, errW_none, errW_some] <;> rfl), bA⟩
    ·rw [if_neg c10] at H
     have c10b0 : (t135 == (IntKind.u64.wrap (t136))) = false := beq_eq_false_iff_ne.mpr c10
     have c10b1 : (t135 != (IntKind.u64.wrap (t136))) = true := bne_iff_ne.mpr c10
     simp only [Option.some.injEq, Prod.mk.injEq] at H
     obtain ⟨rfl, rfl⟩ := H
     go_enter Tryd.func56, Tryd.ntmps56
     try go_wp2
     have n0_ := Ax.mk (below_drew1 HB.out)
     clear HB
     have HB := n0_
     clear n0_
     refine start_ (n := 11) (S := fun w' => True) (ds := []) #[false, false, false, false, false, false, false, false, false, false, false] (by kernel_rfl) rfl rfl trivial (fun hHeld => ?_); refine with_tabW seal_Take.tab4 seal_Take.bits4 (fun HT_ HW_ => ?_)
     generalize w.drew = w16 at HB hHeld ⊢
     refine pure_ (i := 0) (N := some 12) (v := ?_) (a' := ?_) #[true, false, false, false, false, false, false, false, false, false, false] rfl rfl (any_of HT_.out (by kernel_rfl)) (fun _ _ _ h => h) (Or.inl ⟨by rfl, ?_⟩) ?_ ?_
     rotate_left
     ·intro w'
      go_simp
      with_reducible rfl
     rotate_left
     ·simp only [Act.put, setIfInBounds_toArray, set_cons_zero, set_cons_succ, i64_w, i32_w]
      rfl
     refine pure_ (i := 1) (N := some 13) (v := ?_) (a' := ?_) #[true, true, false, false, false, false, false, false, false, false, false] rfl rfl (any_of HT_.out (by kernel_rfl)) (fun _ _ _ h => h) (Or.inl ⟨by rfl, ?_⟩) ?_ ?_
     rotate_left
     ·intro w'
      go_simp
      with_reducible rfl
     rotate_left
     ·simp only [Act.put, setIfInBounds_toArray, set_cons_zero, set_cons_succ, i64_w, i32_w]
      rfl
     refine pure_ (i := 2) (N := some 14) (v := ?_) (a' := ?_) #[true, true, true, false, false, false, false, false, false, false, false] rfl rfl (any_of HT_.out (by kernel_rfl)) (fun _ _ _ h => h) (Or.inl ⟨by rfl, ?_⟩) ?_ ?_
     rotate_left
     ·intro w'
      go_simp
      with_reducible rfl
     rotate_left
     ·simp only [Act.put, setIfInBounds_toArray, set_cons_zero, set_cons_succ, i64_w, i32_w]
      rfl
     refine pure_ (i := 4) (N := some 16) (v := ?_) (a' := ?_) #[true, true, true, false, true, false, false, false, false, false, false] rfl rfl (any_of HT_.out (by kernel_rfl)) (fun _ _ _ h => h) (Or.inl ⟨by rfl, ?_⟩) ?_ ?_
     rotate_left
     ·intro w'
      go_simp
      with_reducible rfl
     rotate_left
     ·simp only [Act.put, setIfInBounds_toArray, set_cons_zero, set_cons_succ, i64_w, i32_w]
      rfl
     refine pure_ (i := 5) (N := some 17) (v := ?_) (a' := ?_) #[true, true, true, false, true, true, false, false, false, false, false] rfl rfl (any_of HT_.out (by kernel_rfl)) (fun _ _ _ h => h) (Or.inl ⟨by rfl, ?_⟩) ?_ ?_
     rotate_left
     ·intro w'
      go_simp
      with_reducible rfl
     rotate_left
     ·simp only [Act.put, setIfInBounds_toArray, set_cons_zero, set_cons_succ, i64_w, i32_w]
      rfl
     refine pure_ (i := 6) (N := some 18) (v := ?_) (a' := ?_) #[true, true, true, false, true, true, true, false, false, false, false] rfl rfl (any_of HT_.out (by kernel_rfl)) (fun _ _ _ h => h) (Or.inl ⟨by rfl, ?_⟩) ?_ ?_
     rotate_left
     ·intro w'
      go_simp
      with_reducible rfl
     rotate_left
     ·simp only [Act.put, setIfInBounds_toArray, set_cons_zero, set_cons_succ, i64_w, i32_w]
      rfl
     refine one_ (i := 3) (N := some 15) #[true, true, true, true, true, true, true, false, false, false, false] rfl rfl (one_of HT_.out (by kernel_rfl)) (by decide) (fun K hK => ?_)
     refine goes_ Tryd.func72 (by kernel_rfl) rfl #[.string (a0.extract ((ji3) : Int).toNat a0.size)] (by rfl) rfl rfl (by (try simp only [List.map_toArray, List.map_cons, List.map_nil]); first | done | (simp only [hji3]; rfl) | rfl | (simp only [List.length_drop, List.length_take]; rfl) | (rw [wrap_sum2 (by assumption)]; rfl)) ?_
     with_reducible refine (le_Get.calls (a0.extract ((ji3) : Int).toNat a0.size) t135 _ A6.out).mono ?_
     rintro e w17 ⟨rfl, hb⟩
     refine ⟨_, rfl, ?_⟩
     have n0_ := Ax.mk (bP bA hb)
     clear HB
     have HB := n0_
     clear n0_
     (try clear hb)
     (try clear hb2)
     (try clear hk)
     (try clear hi)
     refine hK.out _ _ trivial (fun hHeld => ?_)
     clear hK K
     refine norm_ (a' := ?_) ?_ ?_
     rotate_left
     ·show Act.put _ (some 15) _ = _
      simp only [Act.put, setIfInBounds_toArray, set_cons_zero, set_cons_succ, i64_w, i32_w]
      rfl
     refine one_ (i := 7) (N := some 19) #[true, true, true, true, true, true, true, true, false, false, false] rfl rfl (one_of HT_.out (by kernel_rfl)) (by decide) (fun K hK => ?_)
     refine goes_ Tryd.func66 (by kernel_rfl) rfl #[.string (a0.extract 0 ((ji3) : Int).toNat)] (by rfl) rfl rfl (by (try simp only [List.map_toArray, List.map_cons, List.map_nil]); first | done | (simp only [hji3]; rfl) | rfl | (simp only [List.length_drop, List.length_take]; rfl) | (rw [wrap_sum2 (by assumption)]; rfl)) ?_
     with_reducible refine (seal_Sum.calls (a0.extract 0 ((ji3) : Int).toNat) t136 _ A9.out).mono ?_
     rintro e w18 ⟨rfl, hb⟩
     refine ⟨_, rfl, ?_⟩
     have n0_ := Ax.mk (bP bA hb)
     clear HB
     have HB := n0_
     clear n0_
     (try clear hb)
     (try clear hb2)
     (try clear hk)
     (try clear hi)
     refine hK.out _ _ trivial (fun hHeld => ?_)
     clear hK K
     refine norm_ (a' := ?_) ?_ ?_
     rotate_left
     ·show Act.put _ (some 19) _ = _
      simp only [Act.put, setIfInBounds_toArray, set_cons_zero, set_cons_succ, i64_w, i32_w]
      rfl
     refine pure_ (i := 8) (N := some 20) (v := ?_) (a' := ?_) #[true, true, true, true, true, true, true, true, true, false, false] rfl rfl (any_of HT_.out (by kernel_rfl)) (fun _ _ _ h => h) (Or.inl ⟨by rfl, ?_⟩) ?_ ?_
     rotate_left
     ·intro w'
      go_simp
      with_reducible rfl
     rotate_left
     ·simp only [Act.put, setIfInBounds_toArray, set_cons_zero, set_cons_succ, i64_w, i32_w]
      rfl
     refine pure_ (i := 9) (N := some 21) (v := ?_) (a' := ?_) #[true, true, true, true, true, true, true, true, true, true, false] rfl rfl (any_of HT_.out (by kernel_rfl)) (fun _ _ _ h => h) (Or.inl ⟨by rfl, ?_⟩) ?_ ?_
     rotate_left
     ·intro w'
      go_simp
      with_reducible rfl
     rotate_left
     ·simp only [Act.put, setIfInBounds_toArray, set_cons_zero, set_cons_succ, i64_w, i32_w]
      rfl
     refine pure_ (i := 10) (N := some 11) (v := ?_) (a' := ?_) #[true, true, true, true, true, true, true, true, true, true, true] rfl rfl (any_of HT_.out (by kernel_rfl)) (fun _ _ _ h => h) (Or.inl ⟨by rfl, ?_⟩) ?_ ?_
     rotate_left
     ·intro w'
      go_simp
      with_reducible rfl
     rotate_left
     ·simp only [Act.put, setIfInBounds_toArray, set_cons_zero, set_cons_succ, i64_w, i32_w]
      rfl
     refine done_ (done_of HT_.out (by kernel_rfl)) ?_
     try go_wp2
     go_ret2
     exact ⟨by first | rfl | (simp [errW_none, errW_some] <;> rfl) | (simp only [← hji3]; first | rfl | (simp [errW_none, errW_some] <;> rfl)) | (simp [*, errW_none, errW_some] <;> rfl), bA⟩
   ·rw [if_neg c5] at H
    exact absurd H (by simp)
  ·rw [if_neg c4] at H
   exact absurd H (by simp)
end Go.Proofs.YtboommbclbjlnaaDoor.Fn
end
section
namespace Go.Proofs.YtboommbclbjlnaaDoor.Fn
open Go.RowKit Go.Proofs.YtboommbclbjlnaaDoorW.PrintWords Go.Proofs.YtboommbclbjlnaaDoorW.PrintLast Go.Proofs.YtboommbclbjlnaaDoorW.PrintMore Go.Proofs.YtboommbclbjlnaaDoor.Lf
attribute [local go_sem] max2_int min2_int max_two min_two max_three min_three max_four min_four   -- for this text's walks alone
set_option linter.unusedVariables false
set_option linter.unusedSimpArgs false
def IsS96 (w0 W : World) (g : Nat) (f0 : ByteArray) (f1 : Bool) : Prop := W.heap[g]? = some (.cells #[.string f0, .bool f1] 96 (0, 0)) ∧ w0.heap.size ≤ g
theorem IsS96.grown {w0 W : World} {g : Nat} {f0 : ByteArray} {f1 : Bool} {W1 : World} {row : Option Nat} (h : IsS96 w0 W g f0 f1) (hw : W.grownBy W1 row) (hne : some g ≠ row) : IsS96 w0 W1 g f0 f1 := by
 obtain ⟨hb, hg⟩ := h
 exact ⟨blk_grown hb hw hne, hg⟩
theorem IsS96.kept {w0 W : World} {g : Nat} {f0 : ByteArray} {f1 : Bool} {W1 : World} {S : Nat → Prop} (h : IsS96 w0 W g f0 f1) (hk : Kept W W1 S) (hne : ¬ S g) : IsS96 w0 W1 g f0 f1 := by
 obtain ⟨hb, hg⟩ := h
 exact ⟨blk_kept hb hk hne, hg⟩
theorem IsS96.below {w0 W : World} {g : Nat} {f0 : ByteArray} {f1 : Bool} {W1 : World} (h : IsS96 w0 W g f0 f1) (hw : Below W.heap.size W W1) : IsS96 w0 W1 g f0 f1 := h.grown (grown_of_below hw none) (by simp)
theorem IsS96.alloc {w0 W : World} {g : Nat} {f0 : ByteArray} {f1 : Bool} (h : IsS96 w0 W g f0 f1) (o : Obj) : IsS96 w0 (W.alloc o) g f0 f1 := h.below (below_alloc (Below.refl _ _) o)
theorem IsS96.drewN {w0 W : World} {g : Nat} {f0 : ByteArray} {f1 : Bool} (h : IsS96 w0 W g f0 f1) (m : Nat) : IsS96 w0 (W.drewN m) g f0 f1 := h
theorem IsS96.drew {w0 W : World} {g : Nat} {f0 : ByteArray} {f1 : Bool} (h : IsS96 w0 W g f0 f1) : IsS96 w0 W.drew g f0 f1 := h
theorem IsS96.at_ {w0 W : World} {g : Nat} {f0 : ByteArray} {f1 : Bool} {w' : World} {m : Nat} (hq : W.drewN m = w') (h : IsS96 w0 W g f0 f1) : IsS96 w0 w' g f0 f1 := by subst hq; exact IsS96.drewN h m
theorem IsS96.apart {w0 W : World} {g : Nat} {f0 : ByteArray} {f1 : Bool} {α : Type} {d : Kd α} {e : Nat} {base : Nat} {ok : Nat → Prop} {v : Value} {xs : List α} (h : IsS96 w0 W g f0 f1) (ho : d.R e W base ok v xs) (ht : ∀ q, q ∈ e :: d.E → q ≠ 96) : d.R e W base (fun k => ok k ∧ k ≠ g) v xs := by
 obtain ⟨hb, hg⟩ := h
 exact Kd.R_types ho hb ht
theorem IsS96.own_ne {w0 W : World} {g : Nat} {f0 : ByteArray} {f1 : Bool} {α : Type} {d : Kd α} {e : Nat} {base : Nat} {ok : Nat → Prop} {v : Value} {xs : List α} (h : IsS96 w0 W g f0 f1) (ho : d.R e W base ok v xs) (ht : e ≠ 96) : some g ≠ v.ownBlock := by
 obtain ⟨hb, hg⟩ := h
 exact Kd.R_ne ho hb ht
theorem IsS96.lt {w0 W : World} {g : Nat} {f0 : ByteArray} {f1 : Bool} (h : IsS96 w0 W g f0 f1) : g < W.heap.size := by
 obtain ⟨hb, hg⟩ := h
 exact bL hb
theorem IsS96.ge {w0 W : World} {g : Nat} {f0 : ByteArray} {f1 : Bool} (h : IsS96 w0 W g f0 f1) : w0.heap.size ≤ g := by
 obtain ⟨hb, hg⟩ := h
 exact hg
theorem cellS96_0 {W : World} {g : Nat} {f0 : ByteArray} {f1 : Bool} (h : W.heap[g]? = some (.cells #[.string f0, .bool f1] 96 (0, 0))) : W.cell? ⟨g, 0, none⟩ = some (.string f0) := (bC h 0).trans rfl
theorem IsS96.set_0 {w0 W : World} {g : Nat} {f0 : ByteArray} {f1 : Bool} (h : IsS96 w0 W g f0 f1) (x : ByteArray) : IsS96 w0 (W.setCell ⟨g, 0, none⟩ (.string x)) g x f1 := by
 obtain ⟨hb, hg⟩ := h
 exact ⟨by simpa using blk_set hb 0 (.string x), hg⟩
theorem cellS96_1 {W : World} {g : Nat} {f0 : ByteArray} {f1 : Bool} (h : W.heap[g]? = some (.cells #[.string f0, .bool f1] 96 (0, 0))) : W.cell? ⟨g, 1, none⟩ = some (.bool f1) := (bC h 1).trans rfl
theorem IsS96.set_1 {w0 W : World} {g : Nat} {f0 : ByteArray} {f1 : Bool} (h : IsS96 w0 W g f0 f1) (x : Bool) : IsS96 w0 (W.setCell ⟨g, 1, none⟩ (.bool x)) g f0 x := by
 obtain ⟨hb, hg⟩ := h
 exact ⟨by simpa using blk_set hb 1 (.bool x), hg⟩
theorem IsS96.new (w0 W : World) (f0 : ByteArray) (f1 : Bool) (hB : Below w0.heap.size w0 W) : IsS96 w0 (W.alloc (.cells #[.string f0, .bool f1] 96)) W.heap.size f0 f1 := ⟨by simpa using heap_alloc_new W _, hB.size⟩
def le_Reader_Text.f (s0_0 : ByteArray) (s0_1 : Bool) (a1 : Int) : Option (ByteArray × ByteArray × Bool) := if s0_1 = true then (some ((⟨#[]⟩ : ByteArray), s0_0, true)) else (if a1 < 0 then (some ((⟨#[]⟩ : ByteArray), s0_0, true)) else (if a1 > (s0_0.size : Int) then (some ((⟨#[]⟩ : ByteArray), s0_0, decide (a1 > (s0_0.size : Int)))) else (if 0 ≤ a1 then (if a1 ≤ (s0_0.size : Int) then (some (s0_0.extract 0 (a1 : Int).toNat, s0_0.extract (a1 : Int).toNat s0_0.size, decide (a1 > (s0_0.size : Int)))) else (none)) else (none))))
set_option maxHeartbeats 8000000 in
set_option maxRecDepth 100000 in
theorem le_Reader_Text.calls (g : Nat) (s0_0 : ByteArray) (s0_1 : Bool) (a1 : Int) (r1 : ByteArray) (r2 : ByteArray) (r3 : Bool) (w0 w : World) (hI : IsS96 w0 w g s0_0 s0_1) (hB : Below w0.heap.size w0 w) (h : le_Reader_Text.f s0_0 s0_1 a1 = some (r1, r2, r3)) :
  Calls Tryd.prog 54 #[.pointer (some ⟨g, 0, none⟩), .int .i64 a1] w fun e w' => e = .returned (.string r1) ∧ IsS96 w0 w' g r2 r3 ∧ Below w0.heap.size w0 w' ∧ KeepBut w w' g none := by
 have HI0 := Ax.mk hI
 have HK := Ax.mk (KeepBut.refl w g none)
 have HL := Ax.mk hB.size
 clear hI
 have HW0 := Ax.mk hB.size
 have HB := Ax.mk hB
 clear hB
 have H : (if s0_1 = true then (some ((⟨#[]⟩ : ByteArray), s0_0, true)) else (if a1 < 0 then (some ((⟨#[]⟩ : ByteArray), s0_0, true)) else (if a1 > (s0_0.size : Int) then (some ((⟨#[]⟩ : ByteArray), s0_0, decide (a1 > (s0_0.size : Int)))) else (if 0 ≤ a1 then (if a1 ≤ (s0_0.size : Int) then (some (s0_0.extract 0 (a1 : Int).toNat, s0_0.extract (a1 : Int).toNat s0_0.size, decide (a1 > (s0_0.size : Int)))) else (none)) else (none))))) = some (r1, r2, r3) := h
 clear h
 by_cases c3 : s0_1 = true
 ·subst c3
  have H1 : (some ((⟨#[]⟩ : ByteArray), s0_0, true)) = some (r1, r2, r3) := by rw [if_pos rfl] at H; exact H
  clear H
  have H := H1
  clear H1
  simp only [Option.some.injEq, Prod.mk.injEq] at H
  obtain ⟨rfl, rfl, rfl⟩ := H
  obtain ⟨HGz4, hgz4⟩ := HI0.out
  have hcz4_0 := cellS96_0 HGz4
  have hcz4_1 := cellS96_1 HGz4
  have hfz4_0 := bF HGz4 0
  have hfz4_1 := bF HGz4 1
  clear HGz4 hgz4
  go_enter Tryd.func54, Tryd.ntmps54
  go_wp2
  go_ret
  exact ⟨by first | rfl | (simp [errW_none, errW_some] <;> rfl) | (simp [*, errW_none, errW_some] <;> rfl), by repeat (first | (with_reducible first | exact HI0.out | apply IsS96.alloc | apply IsS96.drewN | apply IsS96.drew | apply IsS96.set_0 | apply IsS96.set_1) | exact HI0.out), by repeat (first | (with_reducible first | exact HB.out | apply below_alloc | apply pw_below_drewN | apply below_drew1 | refine below_set ?_ (IsS96.ge HI0.out)) | exact HB.out), by repeat (first | (with_reducible first | exact HK.out | apply KeepBut.set_ | apply keep_drewN | apply keep_drew | apply keep_alloc) | exact HK.out)⟩
 ·replace c3 := Bool.eq_false_iff.mpr c3
  subst c3
  have H1 : (if a1 < 0 then (some ((⟨#[]⟩ : ByteArray), s0_0, true)) else (if a1 > (s0_0.size : Int) then (some ((⟨#[]⟩ : ByteArray), s0_0, decide (a1 > (s0_0.size : Int)))) else (if 0 ≤ a1 then (if a1 ≤ (s0_0.size : Int) then (some (s0_0.extract 0 (a1 : Int).toNat, s0_0.extract (a1 : Int).toNat s0_0.size, decide (a1 > (s0_0.size : Int)))) else (none)) else (none)))) = some (r1, r2, r3) := by rw [if_neg (show ¬ (false = true) by decide)] at H; exact H
  clear H
  have H := H1
  clear H1
  by_cases c5 : a1 < 0
  ·rw [if_pos c5] at H
   (try rw [decide_eq_true c5] at H)
   have c5b0 : decide (a1 < 0) = true := decide_eq_true c5
   clear c5
   simp only [Option.some.injEq, Prod.mk.injEq] at H
   obtain ⟨rfl, rfl, rfl⟩ := H
   obtain ⟨HGz6, hgz6⟩ := HI0.out
   have hcz6_0 := cellS96_0 HGz6
   have hcz6_1 := cellS96_1 HGz6
   have hfz6_0 := bF HGz6 0
   have hfz6_1 := bF HGz6 1
   clear HGz6 hgz6
   go_enter Tryd.func54, Tryd.ntmps54
   go_wp2
   go_ret
   exact ⟨by first | rfl | (simp [errW_none, errW_some] <;> rfl) | (simp [*, errW_none, errW_some] <;> rfl), by repeat (first | (with_reducible first | exact HI0.out | apply IsS96.alloc | apply IsS96.drewN | apply IsS96.drew | apply IsS96.set_0 | apply IsS96.set_1) | exact HI0.out), by repeat (first | (with_reducible first | exact HB.out | apply below_alloc | apply pw_below_drewN | apply below_drew1 | refine below_set ?_ (IsS96.ge HI0.out)) | exact HB.out), by repeat (first | (with_reducible first | exact HK.out | apply KeepBut.set_ | apply keep_drewN | apply keep_drew | apply keep_alloc) | exact HK.out)⟩
  ·rw [if_neg c5] at H
   (try rw [decide_eq_false c5] at H)
   have c5b0 : decide (a1 < 0) = false := decide_eq_false c5
   clear c5
   by_cases c7 : a1 > (s0_0.size : Int)
   ·rw [if_pos c7] at H
    (try rw [decide_eq_true c7] at H)
    have c7b0 : decide ((s0_0.size : Int) < a1) = true := decide_eq_true c7
    clear c7
    simp only [Option.some.injEq, Prod.mk.injEq] at H
    obtain ⟨rfl, rfl, rfl⟩ := H
    obtain ⟨HGz8, hgz8⟩ := HI0.out
    have hcz8_0 := cellS96_0 HGz8
    have hcz8_1 := cellS96_1 HGz8
    have hfz8_0 := bF HGz8 0
    have hfz8_1 := bF HGz8 1
    clear HGz8 hgz8
    go_enter Tryd.func54, Tryd.ntmps54
    go_wp2
    go_ret
    exact ⟨by first | rfl | (simp [errW_none, errW_some] <;> rfl) | (simp [*, errW_none, errW_some] <;> rfl), by repeat (first | (with_reducible first | exact HI0.out | apply IsS96.alloc | apply IsS96.drewN | apply IsS96.drew | apply IsS96.set_0 | apply IsS96.set_1) | exact HI0.out), by repeat (first | (with_reducible first | exact HB.out | apply below_alloc | apply pw_below_drewN | apply below_drew1 | refine below_set ?_ (IsS96.ge HI0.out)) | exact HB.out), by repeat (first | (with_reducible first | exact HK.out | apply KeepBut.set_ | apply keep_drewN | apply keep_drew | apply keep_alloc) | exact HK.out)⟩
   ·rw [if_neg c7] at H
    (try rw [decide_eq_false c7] at H)
    have c7b0 : decide ((s0_0.size : Int) < a1) = false := decide_eq_false c7
    clear c7
    by_cases c9 : 0 ≤ a1
    ·rw [if_pos c9] at H
     (try rw [decide_eq_true c9] at H)
     have c9b0 := eq_true c9
     have c9b1 : decide (0 ≤ a1) = true := decide_eq_true c9
     clear c9
     by_cases c10 : a1 ≤ (s0_0.size : Int)
     ·rw [if_pos c10] at H
      (try rw [decide_eq_true c10] at H)
      have c10b0 := eq_true c10
      have c10b1 : decide (a1 ≤ (s0_0.size : Int)) = true := decide_eq_true c10
      clear c10
      have c11b0 := eq_true (of_decide_eq_true (by first | (with_reducible assumption) | assumption) : 0 ≤ a1)
      have c12b0 := eq_true (of_decide_eq_true (by first | (with_reducible assumption) | assumption) : a1 ≤ (s0_0.size : Int))
      simp only [Option.some.injEq, Prod.mk.injEq] at H
      obtain ⟨rfl, rfl, rfl⟩ := H
      obtain ⟨HGz13, hgz13⟩ := HI0.out
      have hcz13_0 := cellS96_0 HGz13
      have hcz13_1 := cellS96_1 HGz13
      have hfz13_0 := bF HGz13 0
      have hfz13_1 := bF HGz13 1
      clear HGz13 hgz13
      go_enter Tryd.func54, Tryd.ntmps54
      go_wp2
      go_ret
      exact ⟨by first | rfl | (simp [errW_none, errW_some] <;> rfl) | (simp [*, errW_none, errW_some] <;> rfl), by repeat (first | (with_reducible first | exact HI0.out | apply IsS96.alloc | apply IsS96.drewN | apply IsS96.drew | apply IsS96.set_0 | apply IsS96.set_1) | exact HI0.out), by repeat (first | (with_reducible first | exact HB.out | apply below_alloc | apply pw_below_drewN | apply below_drew1 | refine below_set ?_ (IsS96.ge HI0.out)) | exact HB.out), by repeat (first | (with_reducible first | exact HK.out | apply KeepBut.set_ | apply keep_drewN | apply keep_drew | apply keep_alloc) | exact HK.out)⟩
     ·rw [if_neg c10] at H
      (try rw [decide_eq_false c10] at H)
      exact absurd H (by simp)
    ·rw [if_neg c9] at H
     (try rw [decide_eq_false c9] at H)
     exact absurd H (by simp)
def le_Reader_Number.f (s0_0 : ByteArray) (s0_1 : Bool) (a1 : Int) : Option (Int × ByteArray × Bool) := if a1 > 8 then ((le_Reader_Text.f s0_0 s0_1 (-1)).bind fun bt127 => ((le_Get.f bt127.1).bind fun t130 => (some (t130, bt127.2.1, bt127.2.2)))) else ((le_Reader_Text.f s0_0 s0_1 a1).bind fun bt131 => ((le_Get.f bt131.1).bind fun t134 => (some (t134, bt131.2.1, bt131.2.2))))
set_option maxHeartbeats 8000000 in
set_option maxRecDepth 100000 in
theorem le_Reader_Number.calls (g : Nat) (s0_0 : ByteArray) (s0_1 : Bool) (a1 : Int) (r1 : Int) (r2 : ByteArray) (r3 : Bool) (w0 w : World) (hI : IsS96 w0 w g s0_0 s0_1) (hB : Below w0.heap.size w0 w) (h : le_Reader_Number.f s0_0 s0_1 a1 = some (r1, r2, r3)) :
  Calls Tryd.prog 55 #[.pointer (some ⟨g, 0, none⟩), .int .i64 a1] w fun e w' => e = .returned (.int .u64 r1) ∧ IsS96 w0 w' g r2 r3 ∧ Below w0.heap.size w0 w' ∧ KeepBut w w' g none := by
 have HI0 := Ax.mk hI
 have HK := Ax.mk (KeepBut.refl w g none)
 have HL := Ax.mk hB.size
 clear hI
 have HW0 := Ax.mk hB.size
 have HB := Ax.mk hB
 clear hB
 have H : (if a1 > 8 then ((le_Reader_Text.f s0_0 s0_1 (-1)).bind fun bt127 => ((le_Get.f bt127.1).bind fun t130 => (some (t130, bt127.2.1, bt127.2.2)))) else ((le_Reader_Text.f s0_0 s0_1 a1).bind fun bt131 => ((le_Get.f bt131.1).bind fun t134 => (some (t134, bt131.2.1, bt131.2.2))))) = some (r1, r2, r3) := h
 clear h
 by_cases c3 : a1 > 8
 ·rw [if_pos c3] at H
  have c3b0 : decide (8 < a1) = true := decide_eq_true c3
  clear c3
  replace H := Option.bind_eq_some_iff.mp H
  obtain ⟨⟨t127, t128, t129⟩, A40, H⟩ := H
  replace H : ((le_Get.f t127).bind fun t130 => (some (t130, t128, t129))) = some (r1, r2, r3) := H
  have A4 := Ax.mk A40
  clear A40
  replace H := Option.bind_eq_some_iff.mp H
  obtain ⟨t130, A50, H⟩ := H
  replace H : (some (t130, t128, t129)) = some (r1, r2, r3) := H
  have A5 := Ax.mk A50
  clear A50
  simp only [Option.some.injEq, Prod.mk.injEq] at H
  obtain ⟨rfl, rfl, rfl⟩ := H
  go_enter Tryd.func55, Tryd.ntmps55
  go_wp2_with (first | ((with_reducible refine gate_callee (f := 54) rfl ?_); refine goesL_ (some 9) rfl rfl Tryd.func54 (by kernel_rfl) rfl #[.pointer (some ⟨g, 0, none⟩), .int .i64 (-1)] rfl (by (try simp only [List.map_toArray, List.map_cons, List.map_nil]); first | done | rfl | (simp only [List.length_drop, List.length_take]; rfl) | (rw [wrap_sum2 (by assumption)]; rfl)) ?_; (with_reducible refine (le_Reader_Text.calls g s0_0 s0_1 (-1) t127 t128 t129 w0 _ ?side1 ?side2 A4.out).mono ?_); (case side1 => repeat (first | (with_reducible first | exact HI0.out | apply IsS96.alloc | apply IsS96.drewN | apply IsS96.drew | apply IsS96.set_0 | apply IsS96.set_1) | exact HI0.out)); (case side2 => repeat (first | (with_reducible first | exact HB.out | apply below_alloc | apply pw_below_drewN | apply below_drew1 | refine below_set ?_ (IsS96.ge HI0.out)) | exact HB.out)); rintro e w6 ⟨rfl, hi, hb, hk⟩; refine ⟨_, rfl, ?_⟩; have n0_ := Ax.mk (KeepBut.trans (by repeat (first | (with_reducible first | exact HK.out | apply KeepBut.set_ | apply keep_drewN | apply keep_drew | apply keep_alloc) | exact HK.out)) hk (.inl rfl)); have n1_ := Ax.mk (hb); have n2_ := Ax.mk (hi); clear HK; clear HB; clear HI0; have HK := n0_; have HB := n1_; have HI0 := n2_; clear n0_ n1_ n2_; (try clear hb); (try clear hb2); (try clear hk); (try clear hi)) | ((with_reducible refine gate_callee (f := 72) rfl ?_); refine goesL_ (some 10) rfl rfl Tryd.func72 (by kernel_rfl) rfl #[.string t127] rfl (by (try simp only [List.map_toArray, List.map_cons, List.map_nil]); first | done | rfl | (simp only [List.length_drop, List.length_take]; rfl) | (rw [wrap_sum2 (by assumption)]; rfl)) ?_; (with_reducible refine (le_Get.calls t127 t130 _ A5.out).mono ?_); rintro e w7 ⟨rfl, hb⟩; refine ⟨_, rfl, ?_⟩; have n0_ := Ax.mk (IsS96.below (by repeat (first | (with_reducible first | exact HI0.out | apply IsS96.alloc | apply IsS96.drewN | apply IsS96.drew | apply IsS96.set_0 | apply IsS96.set_1) | exact HI0.out)) hb); have n1_ := Ax.mk (KeepBut.trans (by repeat (first | (with_reducible first | exact HK.out | apply KeepBut.set_ | apply keep_drewN | apply keep_drew | apply keep_alloc) | exact HK.out)) (KeepBut.of_below hb g none) (.inl rfl)); have n2_ := Ax.mk (bP (by repeat (first | (with_reducible first | exact HB.out | apply below_alloc | apply pw_below_drewN | apply below_drew1 | refine below_set ?_ (IsS96.ge HI0.out)) | exact HB.out)) hb); clear HI0; clear HK; clear HB; have HI0 := n0_; have HK := n1_; have HB := n2_; clear n0_ n1_ n2_; (try clear hb); (try clear hb2); (try clear hk); (try clear hi)))
  go_ret
  exact ⟨by first | rfl | (simp [errW_none, errW_some] <;> rfl) | (simp [*, errW_none, errW_some] <;> rfl), by repeat (first | (with_reducible first | exact HI0.out | apply IsS96.alloc | apply IsS96.drewN | apply IsS96.drew | apply IsS96.set_0 | apply IsS96.set_1) | exact HI0.out), by repeat (first | (with_reducible first | exact HB.out | apply below_alloc | apply pw_below_drewN | apply below_drew1 | refine below_set ?_ (IsS96.ge HI0.out)) | exact HB.out), by repeat (first | (with_reducible first | exact HK.out | apply KeepBut.set_ | apply keep_drewN | apply keep_drew | apply keep_alloc) | exact HK.out)⟩
 ·rw [if_neg c3] at H
  have c3b0 : decide (8 < a1) = false := decide_eq_false c3
  clear c3
  replace H := Option.bind_eq_some_iff.mp H
  obtain ⟨⟨t131, t132, t133⟩, A80, H⟩ := H
  replace H : ((le_Get.f t131).bind fun t134 => (some (t134, t132, t133))) = some (r1, r2, r3) := H
  have A8 := Ax.mk A80
  clear A80
  replace H := Option.bind_eq_some_iff.mp H
  obtain ⟨t134, A90, H⟩ := H
  replace H : (some (t134, t132, t133)) = some (r1, r2, r3) := H
  have A9 := Ax.mk A90
  clear A90
  simp only [Option.some.injEq, Prod.mk.injEq] at H
  obtain ⟨rfl, rfl, rfl⟩ := H
  go_enter Tryd.func55, Tryd.ntmps55
  go_wp2_with (first | ((with_reducible refine gate_callee (f := 54) rfl ?_); refine goesL_ (some 9) rfl rfl Tryd.func54 (by kernel_rfl) rfl #[.pointer (some ⟨g, 0, none⟩), .int .i64 a1] rfl (by (try simp only [List.map_toArray, List.map_cons, List.map_nil]); first | done | rfl | (simp only [List.length_drop, List.length_take]; rfl) | (rw [wrap_sum2 (by assumption)]; rfl)) ?_; (with_reducible refine (le_Reader_Text.calls g s0_0 s0_1 a1 t131 t132 t133 w0 _ ?side1 ?side2 A8.out).mono ?_); (case side1 => repeat (first | (with_reducible first | exact HI0.out | apply IsS96.alloc | apply IsS96.drewN | apply IsS96.drew | apply IsS96.set_0 | apply IsS96.set_1) | exact HI0.out)); (case side2 => repeat (first | (with_reducible first | exact HB.out | apply below_alloc | apply pw_below_drewN | apply below_drew1 | refine below_set ?_ (IsS96.ge HI0.out)) | exact HB.out)); rintro e w10 ⟨rfl, hi, hb, hk⟩; refine ⟨_, rfl, ?_⟩; have n0_ := Ax.mk (KeepBut.trans (by repeat (first | (with_reducible first | exact HK.out | apply KeepBut.set_ | apply keep_drewN | apply keep_drew | apply keep_alloc) | exact HK.out)) hk (.inl rfl)); have n1_ := Ax.mk (hb); have n2_ := Ax.mk (hi); clear HK; clear HB; clear HI0; have HK := n0_; have HB := n1_; have HI0 := n2_; clear n0_ n1_ n2_; (try clear hb); (try clear hb2); (try clear hk); (try clear hi)) | ((with_reducible refine gate_callee (f := 72) rfl ?_); refine goesL_ (some 10) rfl rfl Tryd.func72 (by kernel_rfl) rfl #[.string t131] rfl (by (try simp only [List.map_toArray, List.map_cons, List.map_nil]); first | done | rfl | (simp only [List.length_drop, List.length_take]; rfl) | (rw [wrap_sum2 (by assumption)]; rfl)) ?_; (with_reducible refine (le_Get.calls t131 t134 _ A9.out).mono ?_); rintro e w11 ⟨rfl, hb⟩; refine ⟨_, rfl, ?_⟩; have n0_ := Ax.mk (IsS96.below (by repeat (first | (with_reducible first | exact HI0.out | apply IsS96.alloc | apply IsS96.drewN | apply IsS96.drew | apply IsS96.set_0 | apply IsS96.set_1) | exact HI0.out)) hb); have n1_ := Ax.mk (KeepBut.trans (by repeat (first | (with_reducible first | exact HK.out | apply KeepBut.set_ | apply keep_drewN | apply keep_drew | apply keep_alloc) | exact HK.out)) (KeepBut.of_below hb g none) (.inl rfl)); have n2_ := Ax.mk (bP (by repeat (first | (with_reducible first | exact HB.out | apply below_alloc | apply pw_below_drewN | apply below_drew1 | refine below_set ?_ (IsS96.ge HI0.out)) | exact HB.out)) hb); clear HI0; clear HK; clear HB; have HI0 := n0_; have HK := n1_; have HB := n2_; clear n0_ n1_ n2_; (try clear hb); (try clear hb2); (try clear hk); (try clear hi)))
  go_ret
  exact ⟨by first | rfl | (simp [errW_none, errW_some] <;> rfl) | (simp [*, errW_none, errW_some] <;> rfl), by repeat (first | (with_reducible first | exact HI0.out | apply IsS96.alloc | apply IsS96.drewN | apply IsS96.drew | apply IsS96.set_0 | apply IsS96.set_1) | exact HI0.out), by repeat (first | (with_reducible first | exact HB.out | apply below_alloc | apply pw_below_drewN | apply below_drew1 | refine below_set ?_ (IsS96.ge HI0.out)) | exact HB.out), by repeat (first | (with_reducible first | exact HK.out | apply KeepBut.set_ | apply keep_drewN | apply keep_drew | apply keep_alloc) | exact HK.out)⟩
end Go.Proofs.YtboommbclbjlnaaDoor.Fn
end
section
namespace Go.Proofs.YtboommbclbjlnaaDoor.Fn
open Go.RowKit Go.Proofs.YtboommbclbjlnaaDoorW.PrintWords Go.Proofs.YtboommbclbjlnaaDoorW.PrintLast Go.Proofs.YtboommbclbjlnaaDoorW.PrintMore Go.Proofs.YtboommbclbjlnaaDoor.Lf
open List (setIfInBounds_toArray set_cons_zero set_cons_succ)
attribute [local go_sem] max2_int min2_int max_two min_two max_three min_three max_four min_four   -- for this text's walks alone
set_option linter.unusedVariables false
set_option linter.unusedSimpArgs false
def step_Take.f (k : Nat) (a0 : ByteArray) : Option (Int × Int × Int × Int × ByteArray × ByteArray × Int) :=
 (le_Reader_Number.f a0 false 2).bind fun n1 => (le_Reader_Text.f n1.2.1 n1.2.2 (wrap64 n1.1)).bind fun t1 =>
 if t1.2.2 = true then some (0, 0, 0, 0, ⟨#[]⟩, ⟨#[]⟩, 10) else (seal_Take.f t1.1).bind fun s1 =>
 if s1.2 = 0 then (le_Reader_Number.f s1.1 false 1).bind fun q1 => (le_Reader_Number.f q1.2.1 q1.2.2 4).bind fun q2 => (le_Reader_Number.f q2.2.1 q2.2.2 4).bind fun q3 =>
  (le_Reader_Number.f q3.2.1 q3.2.2 8).bind fun q4 => (le_Reader_Text.f q4.2.1 q4.2.2 (q4.2.1.size : Int)).bind fun x =>
  if x.2.2 = true then some (0, 0, 0, 0, ⟨#[]⟩, ⟨#[]⟩, 2) else (step_Right.f k (wrap64 q1.1) (wrap64 q2.1) (wrap64 q3.1) q4.1 x.1).bind fun ok =>
  if ok = true then some (wrap64 q1.1, wrap64 q2.1, wrap64 q3.1, q4.1, x.1, t1.2.1, 0) else some (0, 0, 0, 0, ⟨#[]⟩, ⟨#[]⟩, 2)
 else some (0, 0, 0, 0, ⟨#[]⟩, ⟨#[]⟩, s1.2)
theorem step_Take.mono : ∀ a0 k, LeO (step_Take.f k a0) (step_Take.f (k + 1) a0) := by
 intro a0 k
 unfold step_Take.f
 repeat' first
   | (with_reducible exact step_Right.mono _ _ _ _ _ _)
   | (with_reducible exact LeO.refl _)
   | (with_reducible exact LeO.none _)
   | (with_reducible refine LeO.ite ?_ ?_)
   | (with_reducible refine LeO.bind ?_ (fun _ => ?_))
   | exact LeO.none _
   | refine LeO.ite ?_ ?_
   | refine LeO.bind ?_ (fun _ => ?_)
def step_Take.T13 : Bool × List (List Nat × List Nat) := (true, [([], []), ([], []), ([1], [1]), ([2], [2]), ([3], [3]), ([0, 0], [0]), ([4, 5, 0, 1, 2, 3, 4, 5], [4]), ([6, 0, 1, 2, 3, 4, 5, 6], [])])
def step_Take.B13 : List Nat := [0, 0, 2, 6, 14, 1, 63, 127]
theorem step_Take.tab13 : rtab .any (opsOf Tryd.f27 13) = step_Take.T13 := by kernel_rfl
theorem step_Take.bits13 : waitsOk step_Take.T13.2 step_Take.B13 = true := by kernel_rfl
theorem keep_blk {w w1 : World} {g k : Nat} {o : Obj} (hk : KeepBut w w1 g none) (h : w.heap[k]? = some o) (hne : k ≠ g) : w1.heap[k]? = some o := by
 have hlt : k < w.heap.size := (Array.getElem?_eq_some_iff.1 h).1
 rw [hk.2 k hlt hne (by simp)]; exact h
theorem put24 {W : World} {g : Nat} {o0 o1 o2 o3 o4 : Value} (h : W.heap[g]? = some (.cells #[o0, o1, o2, o3, o4] 24 (0, 0))) (v0 v1 v2 v3 v4 : Value) :
  (((((W.setCell ⟨g, 0, none⟩ v0).setCell ⟨g, 1, none⟩ v1).setCell ⟨g, 2, none⟩ v2).setCell ⟨g, 3, none⟩ v3).setCell ⟨g, 4, none⟩ v4).heap[g]? = some (.cells #[v0, v1, v2, v3, v4] 24 (0, 0)) :=
 bU (cs := #[v0, v1, v2, v3, o4]) (bU (cs := #[v0, v1, v2, o3, o4]) (bU (cs := #[v0, v1, o2, o3, o4]) (bU (cs := #[v0, o1, o2, o3, o4]) (bU (cs := #[o0, o1, o2, o3, o4]) h 0 _ rfl) 1 _ rfl) 2 _ rfl) 3 _ rfl) 4 _ rfl
theorem below24 {w W : World} {g : Nat} (h : Below w.heap.size w W) (v0 v1 v2 v3 v4 : Value) (hg : w.heap.size ≤ g := by omega) :
  Below w.heap.size w (((((W.setCell ⟨g, 0, none⟩ v0).setCell ⟨g, 1, none⟩ v1).setCell ⟨g, 2, none⟩ v2).setCell ⟨g, 3, none⟩ v3).setCell ⟨g, 4, none⟩ v4) :=
 below_set (below_set (below_set (below_set (below_set h hg) hg) hg) hg) hg
set_option maxHeartbeats 8000000 in
set_option maxRecDepth 100000 in
theorem step_Take.calls (k : Nat) (a0 : ByteArray) (r1 r2 r3 r4 : Int) (r5 r6 : ByteArray) (r7 : Int) (w : World) (h : step_Take.f k a0 = some (r1, r2, r3, r4, r5, r6, r7)) (HT : Tabs w) :
  Calls Tryd.prog 27 #[.string a0] w fun e w' => e = .returned (.tuple #[.agg #[.int .i64 r1, .int .i64 r2, .int .i64 r3, .int .u64 r4, .string r5], .string r6, .int .i64 r7]) ∧ Below w.heap.size w w' := by
 unfold step_Take.f at h
 obtain ⟨⟨n1, nl, nb⟩, A1, h⟩ := Option.bind_eq_some_iff.1 h
 obtain ⟨⟨t1, tl, tb⟩, A2, h⟩ := Option.bind_eq_some_iff.1 h
 replace A1 := Ax.mk A1
 replace A2 := Ax.mk A2
 have H := Ax.mk h
 clear h
 rename _ = _ => hjunk
 clear hjunk
 rename _ = _ => hjunk
 clear hjunk
 have HW := Ax.mk HT
 clear HT
 go_enter Tryd.func27, Tryd.ntmps27
 go_wp2_with (first | (go_at_call 55; fail) | (go_at_call 54; fail))
 have BK0 : (w.alloc (Obj.cells #[Value.int IntKind.i64 0, Value.int IntKind.i64 0, Value.int IntKind.i64 0, Value.int IntKind.u64 0, Value.string { data := #[] }] 24)).heap[w.heap.size]? = some (Obj.cells #[Value.int IntKind.i64 0, Value.int IntKind.i64 0, Value.int IntKind.i64 0, Value.int IntKind.u64 0, Value.string { data := #[] }] 24 (0, 0)) := heap_alloc_new w _
 have BK0' := blk_alloc BK0 (Obj.cells #[Value.string a0, Value.bool false] 96)
 refine (le_Reader_Number.calls _ a0 false 2 n1 nl nb w _ (by rw [show w.heap.size + 1 = (w.alloc (Obj.cells #[Value.int IntKind.i64 0, Value.int IntKind.i64 0, Value.int IntKind.i64 0, Value.int IntKind.u64 0, Value.string { data := #[] }] 24)).heap.size by simp]; exact IsS96.new w _ a0 false (below_alloc (Below.refl _ _) _)) (below_alloc (below_alloc (Below.refl _ _) _) _) A1.out).mono ?_
 rintro e w1 ⟨rfl, hI1, hB1, hK1⟩
 have BK1 := keep_blk hK1 BK0' (by omega)
 clear BK0 BK0' hK1
 replace hI1 := Ax.mk hI1
 replace hB1 := Ax.mk hB1
 replace BK1 := Ax.mk BK1
 go_wp2_with (first | (go_at_call 55; fail) | (go_at_call 54; fail))
 refine (le_Reader_Text.calls _ nl nb (wrap64 n1) t1 tl tb w w1 hI1.out hB1.out A2.out).mono ?_
 rintro e w2 ⟨rfl, hI2, hB2, hK2⟩
 have BK2 := keep_blk hK2 BK1.out (by omega)
 clear BK1 hI1 hB1 hK2 A1 A2
 have hc1 := cellS96_1 hI2.1
 replace hI2 := Ax.mk hI2
 replace hB2 := Ax.mk hB2
 cases tb with
 | true =>
  have H1 := H.out
  rw [if_pos rfl] at H1
  cases H1
  have b0 := (bC BK2 0).trans rfl
  have b1 := (bC BK2 1).trans rfl
  have b2 := (bC BK2 2).trans rfl
  have b3 := (bC BK2 3).trans rfl
  have b4 := (bC BK2 4).trans rfl
  have z0 := bF BK2 0
  have z1 := bF BK2 1
  have z2 := bF BK2 2
  have z3 := bF BK2 3
  have z4 := bF BK2 4
  replace BK2 := Ax.mk BK2
  go_wp2
  refine bodyPost_ret (results_ctt rfl _ _ w.heap.size 24 #[.int .i64 0, .int .i64 0, .int .i64 0, .int .u64 0, .string (⟨#[]⟩ : ByteArray)] (0, 0) _ rfl (put24 BK2.out _ _ _ _ _) Tryd.underlying24 rfl (by kernel_rfl)) rfl ?_
  exact ⟨rfl, below24 hB2.out _ _ _ _ _⟩
 | false =>
  have H1 := H.out
  rw [if_neg (by decide)] at H1
  obtain ⟨⟨s1, s2⟩, A3, H2⟩ := Option.bind_eq_some_iff.1 H1
  clear H H1
  replace A3 := Ax.mk A3
  have H := Ax.mk H2
  clear H2
  replace BK2 := Ax.mk BK2
  go_wp2_with (first | (go_at_call 56; fail))
  refine (seal_Take.calls t1 s1 s2 _ A3.out).mono ?_
  rintro e w3 ⟨rfl, hb3⟩
  have hI3 := hI2.out.below hb3
  have hB3 := bP hB2.out hb3
  have BK3 := bB BK2.out hb3
  clear A3 hI2 hB2 BK2 hc1 hb3
  have b0 := (bC BK3 0).trans rfl
  have b1 := (bC BK3 1).trans rfl
  have b2 := (bC BK3 2).trans rfl
  have b3 := (bC BK3 3).trans rfl
  have b4 := (bC BK3 4).trans rfl
  have z0 := bF BK3 0
  have z1 := bF BK3 1
  have z2 := bF BK3 2
  have z3 := bF BK3 3
  have z4 := bF BK3 4
  replace hI3 := Ax.mk hI3
  replace hB3 := Ax.mk hB3
  replace BK3 := Ax.mk BK3
  by_cases hs : s2 = 0
  ·subst hs
   have H1 := H.out
   rw [if_pos rfl] at H1
   obtain ⟨⟨n1_, l1_, d1_⟩, B1, H1⟩ := Option.bind_eq_some_iff.1 H1
   obtain ⟨⟨n2_, l2_, d2_⟩, B2, H1⟩ := Option.bind_eq_some_iff.1 H1
   obtain ⟨⟨n3_, l3_, d3_⟩, B3, H1⟩ := Option.bind_eq_some_iff.1 H1
   obtain ⟨⟨n4_, l4_, d4_⟩, B4, H1⟩ := Option.bind_eq_some_iff.1 H1
   obtain ⟨⟨x_, l5_, d5_⟩, B5, H1⟩ := Option.bind_eq_some_iff.1 H1
   clear H
   have H := Ax.mk H1
   clear H1
   replace B1 := Ax.mk B1
   replace B2 := Ax.mk B2
   replace B3 := Ax.mk B3
   replace B4 := Ax.mk B4
   replace B5 := Ax.mk B5
   clear b0 b1 b2 b3 b4 z0 z1 z2 z3 z4
   go_wp2_with (first | (go_at_call 55; fail))
   have hlt : w.heap.size + 1 < w3.heap.size := hI3.out.lt
   have J0 := IsS96.new w w3 s1 false hB3.out
   have R0 := hI3.out.alloc (Obj.cells #[Value.string s1, Value.bool false] 96)
   have K0 := blk_alloc BK3.out (Obj.cells #[Value.string s1, Value.bool false] 96)
   have D0 := below_alloc hB3.out (Obj.cells #[Value.string s1, Value.bool false] 96)
   clear hI3 hB3 BK3
   generalize w3.alloc (Obj.cells #[Value.string s1, Value.bool false] 96) = v0 at J0 R0 K0 D0 ⊢
   generalize w3.heap.size = gq at hlt J0 ⊢
   have HQ := Ax.mk hlt
   replace J0 := Ax.mk J0
   replace R0 := Ax.mk R0
   replace K0 := Ax.mk K0
   replace D0 := Ax.mk D0
   clear hlt
   refine (le_Reader_Number.calls gq s1 false 1 n1_ l1_ d1_ w _ J0.out D0.out B1.out).mono ?_
   rintro e v1 ⟨rfl, hJ, hD, hK⟩
   have hne := HQ.out
   have J1 := Ax.mk hJ
   have D1 := Ax.mk hD
   have R1 := Ax.mk (show IsS96 w v1 (w.heap.size + 1) tl false from ⟨keep_blk hK R0.out.1 (by omega), R0.out.2⟩)
   have K1 := Ax.mk (keep_blk hK K0.out (by omega))
   clear hJ hD hK hne J0 D0 R0 K0
   go_wp2_with (first | (go_at_call 55; fail))
   refine (le_Reader_Number.calls gq l1_ d1_ 4 n2_ l2_ d2_ w _ J1.out D1.out B2.out).mono ?_
   rintro e v2 ⟨rfl, hJ, hD, hK⟩
   have hne := HQ.out
   have J2 := Ax.mk hJ
   have D2 := Ax.mk hD
   have R2 := Ax.mk (show IsS96 w v2 (w.heap.size + 1) tl false from ⟨keep_blk hK R1.out.1 (by omega), R1.out.2⟩)
   have K2 := Ax.mk (keep_blk hK K1.out (by omega))
   clear hJ hD hK hne J1 D1 R1 K1
   go_wp2_with (first | (go_at_call 55; fail))
   refine (le_Reader_Number.calls gq l2_ d2_ 4 n3_ l3_ d3_ w _ J2.out D2.out B3.out).mono ?_
   rintro e v3 ⟨rfl, hJ, hD, hK⟩
   have hne := HQ.out
   have J3 := Ax.mk hJ
   have D3 := Ax.mk hD
   have R3 := Ax.mk (show IsS96 w v3 (w.heap.size + 1) tl false from ⟨keep_blk hK R2.out.1 (by omega), R2.out.2⟩)
   have K3 := Ax.mk (keep_blk hK K2.out (by omega))
   clear hJ hD hK hne J2 D2 R2 K2
   go_wp2_with (first | (go_at_call 55; fail))
   refine (le_Reader_Number.calls gq l3_ d3_ 8 n4_ l4_ d4_ w _ J3.out D3.out B4.out).mono ?_
   rintro e v4 ⟨rfl, hJ, hD, hK⟩
   have hne := HQ.out
   have J4 := Ax.mk hJ
   have D4 := Ax.mk hD
   have R4 := Ax.mk (show IsS96 w v4 (w.heap.size + 1) tl false from ⟨keep_blk hK R3.out.1 (by omega), R3.out.2⟩)
   have K4 := Ax.mk (keep_blk hK K3.out (by omega))
   clear hJ hD hK hne J3 D3 R3 K3
   have hc := fun o => cellS96_0 (J4.out.alloc o).1
   go_wp2_with (first | (go_at_call 54; fail))
   clear hc
   have hlt : gq < v4.heap.size := J4.out.lt
   have X0 := heap_alloc_new v4 (Obj.cells #[Value.int IntKind.i64 (wrap64 n1_), Value.int IntKind.i64 (wrap64 n2_), Value.int IntKind.i64 (wrap64 n3_), Value.int IntKind.u64 n4_, Value.string { data := #[] }] 24)
   have J5 := J4.out.alloc (Obj.cells #[Value.int IntKind.i64 (wrap64 n1_), Value.int IntKind.i64 (wrap64 n2_), Value.int IntKind.i64 (wrap64 n3_), Value.int IntKind.u64 n4_, Value.string { data := #[] }] 24)
   have R5 := R4.out.alloc (Obj.cells #[Value.int IntKind.i64 (wrap64 n1_), Value.int IntKind.i64 (wrap64 n2_), Value.int IntKind.i64 (wrap64 n3_), Value.int IntKind.u64 n4_, Value.string { data := #[] }] 24)
   have K5 := blk_alloc K4.out (Obj.cells #[Value.int IntKind.i64 (wrap64 n1_), Value.int IntKind.i64 (wrap64 n2_), Value.int IntKind.i64 (wrap64 n3_), Value.int IntKind.u64 n4_, Value.string { data := #[] }] 24)
   have D5 := below_alloc D4.out (Obj.cells #[Value.int IntKind.i64 (wrap64 n1_), Value.int IntKind.i64 (wrap64 n2_), Value.int IntKind.i64 (wrap64 n3_), Value.int IntKind.u64 n4_, Value.string { data := #[] }] 24)
   clear J4 R4 K4 D4
   generalize v4.alloc (Obj.cells #[Value.int IntKind.i64 (wrap64 n1_), Value.int IntKind.i64 (wrap64 n2_), Value.int IntKind.i64 (wrap64 n3_), Value.int IntKind.u64 n4_, Value.string { data := #[] }] 24) = v5 at X0 J5 R5 K5 D5 ⊢
   generalize v4.heap.size = gx at hlt X0 ⊢
   have HX := Ax.mk hlt
   clear hlt
   refine (le_Reader_Text.calls gq l4_ d4_ (l4_.size : Int) x_ l5_ d5_ w _ J5 D5 B5.out).mono ?_
   rintro e v6 ⟨rfl, hJ, hD, hK⟩
   have hne := HQ.out
   have hnx := HX.out
   have J6 := Ax.mk hJ
   have D6 := Ax.mk hD
   have R6 := Ax.mk (show IsS96 w v6 (w.heap.size + 1) tl false from ⟨keep_blk hK R5.1 (by omega), R5.2⟩)
   have K6 := Ax.mk (keep_blk hK K5 (by omega))
   have X6 := keep_blk hK X0 (by omega)
   clear hJ hD hK hne hnx J5 D5 R5 K5 X0
   have x0 := (bC X6 0).trans rfl
   have x1 := (bC X6 1).trans rfl
   have x2 := (bC X6 2).trans rfl
   have x3 := (bC X6 3).trans rfl
   have x4 := (bC X6 4).trans rfl
   have z4 := bF X6 4
   replace X6 := Ax.mk X6
   have q1 := cellS96_1 J6.out.1
   cases d5_ with
   | true =>
    have H1 := H.out
    rw [if_pos rfl] at H1
    cases H1
    have hgx : w.heap.size ≠ gx := by have h1 := HQ.out; have h2 := HX.out; omega
    have K7 : (v6.setCell { block := gx, off := 4 } (Value.string x_)).heap[w.heap.size]? = some (Obj.cells #[Value.int IntKind.i64 0, Value.int IntKind.i64 0, Value.int IntKind.i64 0, Value.int IntKind.u64 0, Value.string { data := #[] }] 24 (0, 0)) := bR K6.out hgx _
    have D7 : Below w.heap.size w (v6.setCell { block := gx, off := 4 } (Value.string x_)) := below_set D6.out (by have h1 := HQ.out; have h2 := HX.out; show w.heap.size ≤ gx; omega)
    have b0 := (bC K7 0).trans rfl
    have b1 := (bC K7 1).trans rfl
    have b2 := (bC K7 2).trans rfl
    have b3 := (bC K7 3).trans rfl
    have b4 := (bC K7 4).trans rfl
    have y0 := bF K7 0
    have y1 := bF K7 1
    have y2 := bF K7 2
    have y3 := bF K7 3
    have y4 := bF K7 4
    replace K7 := Ax.mk K7
    replace D7 := Ax.mk D7
    go_wp2
    refine bodyPost_ret (results_ctt rfl _ _ w.heap.size 24 #[.int .i64 0, .int .i64 0, .int .i64 0, .int .u64 0, .string (⟨#[]⟩ : ByteArray)] (0, 0) _ rfl (put24 K7.out _ _ _ _ _) Tryd.underlying24 rfl (by kernel_rfl)) rfl ?_
    exact ⟨rfl, below24 D7.out _ _ _ _ _⟩
   | false =>
    have H1 := H.out
    rw [if_neg (by decide)] at H1
    obtain ⟨ok, A9, H2⟩ := Option.bind_eq_some_iff.1 H1
    clear H H1
    have H := Ax.mk H2
    have A9 := Ax.mk A9
    clear H2
    go_wp2_with (first | (go_at_call 21; fail))
    have hgx : w.heap.size ≠ gx := by have h1 := HQ.out; have h2 := HX.out; omega
    have K7 : (v6.setCell { block := gx, off := 4 } (Value.string x_)).heap[w.heap.size]? = some (Obj.cells #[Value.int IntKind.i64 0, Value.int IntKind.i64 0, Value.int IntKind.i64 0, Value.int IntKind.u64 0, Value.string { data := #[] }] 24 (0, 0)) := bR K6.out hgx _
    have D7 : Below w.heap.size w (v6.setCell { block := gx, off := 4 } (Value.string x_)) := below_set D6.out (by have h1 := HQ.out; have h2 := HX.out; show w.heap.size ≤ gx; omega)
    have X7 : (v6.setCell { block := gx, off := 4 } (Value.string x_)).heap[gx]? = some (Obj.cells #[Value.int IntKind.i64 (wrap64 n1_), Value.int IntKind.i64 (wrap64 n2_), Value.int IntKind.i64 (wrap64 n3_), Value.int IntKind.u64 n4_, Value.string x_] 24 (0, 0)) := bU (cs := #[Value.int IntKind.i64 (wrap64 n1_), Value.int IntKind.i64 (wrap64 n2_), Value.int IntKind.i64 (wrap64 n3_), Value.int IntKind.u64 n4_, Value.string { data := #[] }]) X6.out 4 _ rfl
    have R7 : (v6.setCell { block := gx, off := 4 } (Value.string x_)).heap[w.heap.size + 1]? = some (Obj.cells #[Value.string tl, Value.bool false] 96 (0, 0)) := bR R6.out.1 (by have h1 := HQ.out; have h2 := HX.out; show w.heap.size + 1 ≠ gx; omega) _
    clear K6 D6 X6 R6 J6 q1 x0 x1 x2 x3 x4 z4
    generalize v6.setCell { block := gx, off := 4 } (Value.string x_) = v7 at K7 D7 X7 R7 ⊢
    refine (step_Right.calls k (wrap64 n1_) (wrap64 n2_) (wrap64 n3_) n4_ x_ ok _ A9.out (HW.out.below D7)).mono ?_
    rintro e v8 ⟨rfl, hb8⟩
    have K8 := bB K7 hb8
    have D8 := Ax.mk (bP D7 hb8)
    have X8 := bB X7 hb8
    have R8 := bB R7 hb8
    clear K7 D7 X7 R7 hb8
    cases ok with
    | false =>
     have H1 := H.out
     rw [if_neg (by decide)] at H1
     cases H1
     have b0 := (bC K8 0).trans rfl
     have y0 := bF K8 0
     have b1 := (bC K8 1).trans rfl
     have y1 := bF K8 1
     have b2 := (bC K8 2).trans rfl
     have y2 := bF K8 2
     have b3 := (bC K8 3).trans rfl
     have y3 := bF K8 3
     have b4 := (bC K8 4).trans rfl
     have y4 := bF K8 4
     replace K8 := Ax.mk K8
     replace X8 := Ax.mk X8
     replace R8 := Ax.mk R8
     go_wp2
     refine bodyPost_ret (results_ctt rfl _ _ w.heap.size 24 #[.int .i64 0, .int .i64 0, .int .i64 0, .int .u64 0, .string (⟨#[]⟩ : ByteArray)] (0, 0) _ rfl (put24 K8.out _ _ _ _ _) Tryd.underlying24 rfl (by kernel_rfl)) rfl ?_
     exact ⟨rfl, below24 D8.out _ _ _ _ _⟩
    | true =>
     have H1 := H.out
     rw [if_pos rfl] at H1
     cases H1
     have b0 := (bC K8 0).trans rfl
     have y0 := bF K8 0
     have b1 := (bC K8 1).trans rfl
     have y1 := bF K8 1
     have b2 := (bC K8 2).trans rfl
     have y2 := bF K8 2
     have b3 := (bC K8 3).trans rfl
     have y3 := bF K8 3
     have b4 := (bC K8 4).trans rfl
     have y4 := bF K8 4
     have x0 := (bC X8 0).trans rfl
     have x1 := (bC X8 1).trans rfl
     have x2 := (bC X8 2).trans rfl
     have x3 := (bC X8 3).trans rfl
     have x4 := (bC X8 4).trans rfl
     have q0 := cellS96_0 R8
     replace K8 := Ax.mk K8
     replace X8 := Ax.mk X8
     replace R8 := Ax.mk R8
     go_wp2
     have hgx' : gx ≠ w.heap.size := fun h => hgx h.symm
     have hg1 : w.heap.size + 1 ≠ w.heap.size := by omega
     refine start_ (n := 8) (S := fun w' => w'.cell? ⟨gx, 0, none⟩ = some (.int .i64 (wrap64 n1_)) ∧ w'.cell? ⟨gx, 1, none⟩ = some (.int .i64 (wrap64 n2_)) ∧ w'.cell? ⟨gx, 2, none⟩ = some (.int .i64 (wrap64 n3_)) ∧ w'.cell? ⟨gx, 3, none⟩ = some (.int .u64 r4) ∧ w'.cell? ⟨gx, 4, none⟩ = some (.string r5) ∧ w'.cell? ⟨w.heap.size + 1, 0, none⟩ = some (.string r6)) (ds := []) #[false, false, false, false, false, false, false, false] (by kernel_rfl) rfl rfl ⟨x0, x1, x2, x3, x4, q0⟩ (fun hHeld => ?_)
     refine with_tabW step_Take.tab13 step_Take.bits13 (fun HT_ HW_ => ?_)
     have K9 := blk_drew K8.out
     have D9 := below_drew1 D8.out
     clear b0 b1 b2 b3 b4 y0 y1 y2 y3 y4 x0 x1 x2 x3 x4 q0
     generalize v8.drew = v9 at K9 D9 hHeld ⊢
     clear K8 D8 X8 R8
     refine pure_ (i := 1) (N := some 67) (v := ?_) (a' := ?_) #[false, true, false, false, false, false, false, false] rfl rfl (any_of HT_.out (by kernel_rfl)) (fun _ _ _ h => h) (Or.inl ⟨by rfl, ?_⟩) ?_ ?_
     rotate_left
     ·intro w'
      go_simp
      with_reducible rfl
     rotate_left
     ·simp only [Act.put, setIfInBounds_toArray, set_cons_zero, set_cons_succ, i64_w, i32_w]
      rfl
     refine pure_ (i := 2) (N := some 68) (v := ?_) (a' := ?_) #[false, true, true, false, false, false, false, false] rfl rfl (any_of HT_.out (by kernel_rfl)) (fun _ _ _ h => h) (Or.inl ⟨by rfl, ?_⟩) ?_ ?_
     rotate_left
     ·intro w'
      go_simp
      with_reducible rfl
     rotate_left
     ·simp only [Act.put, setIfInBounds_toArray, set_cons_zero, set_cons_succ, i64_w, i32_w]
      rfl
     refine pure_ (i := 3) (N := some 69) (v := ?_) (a' := ?_) #[false, true, true, true, false, false, false, false] rfl rfl (any_of HT_.out (by kernel_rfl)) (fun _ _ _ h => h) (Or.inl ⟨by rfl, ?_⟩) ?_ ?_
     rotate_left
     ·intro w'
      go_simp
      with_reducible rfl
     rotate_left
     ·simp only [Act.put, setIfInBounds_toArray, set_cons_zero, set_cons_succ, i64_w, i32_w]
      rfl
     refine take_ (i := 4) (N := some 70) (v := ?_) (a' := ?_) #[false, true, true, true, true, false, false, false] rfl rfl (take_ofW HT_.out HW_.out (by kernel_rfl)) (fun _ _ _ h => h) (Or.inl ⟨by rfl, ?_⟩) hHeld ?_ ?_
     rotate_left
     ·rintro w' ⟨s0, s1, s2, s3, s4, s5⟩
      go_simp
      with_reducible rfl
     rotate_left
     ·simp only [Act.put, setIfInBounds_toArray, set_cons_zero, set_cons_succ, i64_w, i32_w]
      rfl
     refine take_ (i := 0) (N := some 66) (v := ?_) (a' := ?_) #[true, true, true, true, true, false, false, false] rfl rfl (take_ofW HT_.out HW_.out (by kernel_rfl)) (fun _ _ _ h => h) (Or.inl ⟨by rfl, ?_⟩) hHeld ?_ ?_
     rotate_left
     ·rintro w' ⟨s0, s1, s2, s3, s4, s5⟩
      go_simp
      with_reducible rfl
     rotate_left
     ·simp only [Act.put, setIfInBounds_toArray, set_cons_zero, set_cons_succ, i64_w, i32_w]
      rfl
     refine one_ (i := 5) (N := none) #[true, true, true, true, true, true, false, false] rfl rfl (one_of HT_.out (by kernel_rfl)) (by decide) (fun K hK => ?_)
     have b0 := (bC K9 0).trans rfl
     have b1 := (bC K9 1).trans rfl
     have b2 := (bC K9 2).trans rfl
     have b3 := (bC K9 3).trans rfl
     have b4 := (bC K9 4).trans rfl
     have y0 := bF K9 0
     have y1 := bF K9 1
     have y2 := bF K9 2
     have y3 := bF K9 3
     have y4 := bF K9 4
     have K8 := Ax.mk K9
     have D8 := Ax.mk D9
     clear K9 D9
     refine skip_ (w1 := ?_) (by rfl) rfl ?_ ?_
     rotate_left
     ·go_simp
      rfl
     refine hK.out _ _ ⟨((cell_far (p := ⟨w.heap.size, _, none⟩) hgx' _).trans ((cell_far (p := ⟨w.heap.size, _, none⟩) hgx' _).trans ((cell_far (p := ⟨w.heap.size, _, none⟩) hgx' _).trans ((cell_far (p := ⟨w.heap.size, _, none⟩) hgx' _).trans ((cell_far (p := ⟨w.heap.size, _, none⟩) hgx' _).trans hHeld.1))))), ((cell_far (p := ⟨w.heap.size, _, none⟩) hgx' _).trans ((cell_far (p := ⟨w.heap.size, _, none⟩) hgx' _).trans ((cell_far (p := ⟨w.heap.size, _, none⟩) hgx' _).trans ((cell_far (p := ⟨w.heap.size, _, none⟩) hgx' _).trans ((cell_far (p := ⟨w.heap.size, _, none⟩) hgx' _).trans hHeld.2.1))))), ((cell_far (p := ⟨w.heap.size, _, none⟩) hgx' _).trans ((cell_far (p := ⟨w.heap.size, _, none⟩) hgx' _).trans ((cell_far (p := ⟨w.heap.size, _, none⟩) hgx' _).trans ((cell_far (p := ⟨w.heap.size, _, none⟩) hgx' _).trans ((cell_far (p := ⟨w.heap.size, _, none⟩) hgx' _).trans hHeld.2.2.1))))), ((cell_far (p := ⟨w.heap.size, _, none⟩) hgx' _).trans ((cell_far (p := ⟨w.heap.size, _, none⟩) hgx' _).trans ((cell_far (p := ⟨w.heap.size, _, none⟩) hgx' _).trans ((cell_far (p := ⟨w.heap.size, _, none⟩) hgx' _).trans ((cell_far (p := ⟨w.heap.size, _, none⟩) hgx' _).trans hHeld.2.2.2.1))))), ((cell_far (p := ⟨w.heap.size, _, none⟩) hgx' _).trans ((cell_far (p := ⟨w.heap.size, _, none⟩) hgx' _).trans ((cell_far (p := ⟨w.heap.size, _, none⟩) hgx' _).trans ((cell_far (p := ⟨w.heap.size, _, none⟩) hgx' _).trans ((cell_far (p := ⟨w.heap.size, _, none⟩) hgx' _).trans hHeld.2.2.2.2.1))))), ((cell_far (p := ⟨w.heap.size, _, none⟩) hg1 _).trans ((cell_far (p := ⟨w.heap.size, _, none⟩) hg1 _).trans ((cell_far (p := ⟨w.heap.size, _, none⟩) hg1 _).trans ((cell_far (p := ⟨w.heap.size, _, none⟩) hg1 _).trans ((cell_far (p := ⟨w.heap.size, _, none⟩) hg1 _).trans hHeld.2.2.2.2.2)))))⟩ (fun hHeld => ?_)
     clear hK K
     refine pure_ (i := 6) (N := some 3) (v := ?_) (a' := ?_) #[true, true, true, true, true, true, true, false] rfl rfl (any_of HT_.out (by kernel_rfl)) (fun _ _ _ h => h) (Or.inl ⟨by rfl, ?_⟩) ?_ ?_
     rotate_left
     ·intro w'
      go_simp
      with_reducible rfl
     rotate_left
     ·simp only [Act.put, setIfInBounds_toArray, set_cons_zero, set_cons_succ, i64_w, i32_w]
      rfl
     refine pure_ (i := 7) (N := some 4) (v := ?_) (a' := ?_) #[true, true, true, true, true, true, true, true] rfl rfl (any_of HT_.out (by kernel_rfl)) (fun _ _ _ h => h) (Or.inl ⟨by rfl, ?_⟩) ?_ ?_
     rotate_left
     ·intro w'
      go_simp
      with_reducible rfl
     rotate_left
     ·simp only [Act.put, setIfInBounds_toArray, set_cons_zero, set_cons_succ, i64_w, i32_w]
      rfl
     refine done_ (done_of HT_.out (by kernel_rfl)) ?_
     try go_wp2
     refine bodyPost_ret (results_ctt rfl _ _ w.heap.size 24 #[.int .i64 (wrap64 n1_), .int .i64 (wrap64 n2_), .int .i64 (wrap64 n3_), .int .u64 r4, .string r5] (0, 0) _ rfl (put24 K8.out _ _ _ _ _) Tryd.underlying24 rfl (by kernel_rfl)) rfl ?_
     exact ⟨rfl, below24 D8.out _ _ _ _ _⟩
  ·have H1 := H.out
   rw [if_neg hs] at H1
   cases H1
   have c1 : (r7 == 0) = false := beq_eq_false_iff_ne.mpr hs
   have c2 : (r7 != 0) = true := bne_iff_ne.mpr hs
   clear hs
   go_wp2
   refine bodyPost_ret (results_ctt rfl _ _ w.heap.size 24 #[.int .i64 0, .int .i64 0, .int .i64 0, .int .u64 0, .string (⟨#[]⟩ : ByteArray)] (0, 0) _ rfl (put24 BK3.out _ _ _ _ _) Tryd.underlying24 rfl (by kernel_rfl)) rfl ?_
   exact ⟨rfl, below24 hB3.out _ _ _ _ _⟩
end Go.Proofs.YtboommbclbjlnaaDoor.Fn
end
section
namespace Go.Proofs.YtboommbclbjlnaaDoor.Fn
open Go.RowKit Go.Proofs.YtboommbclbjlnaaDoorW.PrintWords Go.Proofs.YtboommbclbjlnaaDoorW.PrintLast Go.Proofs.YtboommbclbjlnaaDoorW.PrintMore Go.Proofs.YtboommbclbjlnaaDoor.Lf
attribute [local go_sem] max2_int min2_int max_two min_two max_three min_three max_four min_four   -- for this text's walks alone
set_option linter.unusedVariables false
set_option linter.unusedSimpArgs false
attribute [local go_sem] Oper.semAt_some
def step_Scan.l : Nat → ByteArray → List S24 → Option (List S24 × ByteArray)
 | 0, _, _ => none
 | k + 1, s, acc => (step_Take.f k s).bind fun t => if t.2.2.2.2.2.2 = 0 then (if acc.length ≤ 1000000 then step_Scan.l k t.2.2.2.2.2.1 (acc ++ [⟨t.1, t.2.1, t.2.2.1, t.2.2.2.1, t.2.2.2.2.1⟩]) else none) else some (acc, s)
def step_Scan.f (k : Nat) (a0 : ByteArray) : Option (List S24 × Int) := (step_Scan.l k a0 []).bind fun t => some (t.1, wrap64 ((a0.size : Int) - (t.2.size : Int)))
theorem step_Scan.mono_l : ∀ (k : Nat) (s : ByteArray) (acc : List S24), LeO (step_Scan.l k s acc) (step_Scan.l (k + 1) s acc)
 | 0, s, acc => LeO.none _
 | k + 1, s, acc => by
  unfold step_Scan.l
  refine LeO.bind (step_Take.mono _ _) (fun t => ?_)
  refine LeO.ite ?_ (LeO.refl _)
  exact LeO.ite (step_Scan.mono_l k _ _) (LeO.refl _)
theorem step_Scan.mono : ∀ a0 k, LeO (step_Scan.f k a0) (step_Scan.f (k + 1) a0) := fun a0 k => LeO.bind (step_Scan.mono_l k _ _) (fun _ => LeO.refl _)
set_option maxHeartbeats 4000000 in
set_option maxRecDepth 100000 in
theorem step_Scan.records (s : ByteArray) (w : World) :
  Calls Tryd.prog 59 #[.string s] w fun e w' => e = .returned (.func (.func 73) #[] #[.pointer (some ⟨w.heap.size, 0, none⟩)]) ∧ w' = w.alloc (.cells #[.string s] 9) := by
 go_enter Tryd.func59, Tryd.ntmps59
 go_wp2
 go_ret
 exact ⟨rfl, rfl⟩
def step_Scan.cells (x : S24) : Array Value := #[.int .i64 x.f0, .int .i64 x.f1, .int .i64 x.f2, .int .u64 x.f3, .string x.f4]
theorem step_Scan.set_box {W : World} {g : Nat} {t : TypeId} {v : Value} (h : W.heap[g]? = some (.cells #[v] t (0, 0))) (u : Value) : (W.setCell ⟨g, 0, none⟩ u).heap[g]? = some (.cells #[u] t (0, 0)) := bU (cs := #[v]) h 0 _ rfl
set_option maxHeartbeats 8000000 in
set_option maxRecDepth 100000 in
theorem step_Scan.iter (m l Sb k : Nat) (J : List S24 → ByteArray → World → Prop) (r : List S24 × ByteArray)
  (hJb : ∀ acc s W W', J acc s W → Below W.heap.size W W' → J acc s W')
  (hJs : ∀ acc s W, J acc s W → ∀ u, J acc s (W.setCell ⟨Sb, 0, none⟩ u))
  (hJT : ∀ acc s W, J acc s W → Tabs W)
  (hY : ∀ acc (x : S24) s rest W v, J acc s W → acc.length ≤ 1000000 → W.heap[Sb]? = some (.cells #[v] 9 (0, 0)) → YieldAt Fence.wide (m - 1) Tryd.prog l #[.agg #[.int .i64 x.f0, .int .i64 x.f1, .int .i64 x.f2, .int .u64 x.f3, .string x.f4], .string rest] W fun e W' =>
   e = .returned (.bool true) ∧ J (acc ++ [x]) rest W' ∧ W'.heap[Sb]? = some (.cells #[v] 9 (0, 0)))
  (s : ByteArray) (acc : List S24) (h : step_Scan.l k s acc = some r) (W : World) (hS : W.heap[Sb]? = some (.cells #[.string s] 9 (0, 0))) (h0 : J acc s W) :
  CallsIn Fence.wide m Tryd.prog 73 #[.func (.yield l) #[] #[], .pointer (some ⟨Sb, 0, none⟩)] W fun e W' => (∃ v, e = .returned v) ∧ J r.1 r.2 W' := by
 have HY := Lib.hid hY
 have HB := Lib.hid hJb
 have HS := Lib.hid hJs
 have HT := Lib.hid hJT
 have H := Ax.mk h
 have HK := Ax.mk hS
 have HJ := Ax.mk h0
 clear hY hJb hJs hJT h hS h0
 refine callsIn_of_wp Tryd.func73 rfl trivial ?_ rfl
 simp only [Tryd.ntmps73, List.size_toArray, List.length_cons, List.length_nil, Nat.reduceAdd, Nat.reduceSub, Array.replicate_succ, Array.replicate_zero, List.push_toArray, List.append_toArray, List.nil_append, List.cons_append]
 gi_wp2
 gi_loopg [3] k (fun kq _ wr => ∃ (s1 : ByteArray) (a1 : List S24), Ax (step_Scan.l kq s1 a1 = some r) ∧ Ax (wr.heap[Sb]? = some (.cells #[.string s1] 9 (0, 0))) ∧ Ax (J a1 s1 wr))
 case atStart => exact ⟨s, acc, H, HK, HJ⟩
 case round =>
  clear H HK HJ
  obtain ⟨s1, a1, H, HK, HJ⟩ := hrel
  cases gk with
  | zero => exact absurd H.out (by simp [step_Scan.l])
  | succ k1 =>
   have hh := H.out
   clear H
   rw [step_Scan.l] at hh
   obtain ⟨⟨t1, t2, t3, t4, t5, t6, t7⟩, ht, hh⟩ := Option.bind_eq_some_iff.1 hh
   have HTk := Ax.mk ht
   have H := Ax.mk hh
   clear ht hh
   have hc := (bC HK.out 0).trans rfl
   have hAl : ∀ w1 : World, Below w1.heap.size w1 (w1.alloc (.cells #[.int .i64 t1, .int .i64 t2, .int .i64 t3, .int .u64 t4, .string t5] 24)) := fun w1 => below_alloc (Below.refl _ _) _
   have HA := Lib.hid hAl
   clear hAl
   by_cases h0 : t7 = 0
   ·subst h0
    have hh := H.out
    clear H
    rw [if_pos rfl] at hh
    by_cases hl : a1.length ≤ 1000000
    case neg => rw [if_neg hl] at hh; cases hh
    rw [if_pos hl] at hh
    have H := Ax.mk hh
    have HL := Ax.mk hl
    clear hh hl
    gi_wp2_with (
     refine ⟨trivial, fun h => absurd h (by simp [Fence.wide]), ?_⟩
     gi_at_call 27
     refine (callsIn_wide.2 (step_Take.calls k1 s1 t1 t2 t3 t4 t5 t6 0 wr HTk.out (HT.out _ _ _ HJ.out))).mono ?_
     rintro e w1 ⟨rfl, hb1⟩
     have HJ2 := Ax.mk (HB.out _ _ _ _ (HB.out _ _ _ _ HJ.out hb1) (HA.out w1))
     have HS2 := Ax.mk (blk_alloc (bB HK.out hb1) (.cells #[.int .i64 t1, .int .i64 t2, .int .i64 t3, .int .u64 t4, .string t5] 24))
     clear hc hb1
     obtain ⟨fn, tmps, assign, body, hy, hR⟩ := HY.out a1 ⟨t1, t2, t3, t4, t5⟩ s1 t6 _ _ HJ2.out HL.out HS2.out
     simp only at hy)
    refine ⟨fun h => absurd h (by simp [Fence.wide]), ?_⟩
    refine hR.mono ?_
    rintro e W3 ⟨rfl, hJ3, hS3⟩
    have hc3 := (bC hS3 0).trans rfl
    have hf3 := bF hS3 0
    have HJ3 := Ax.mk (HS.out _ _ _ hJ3 (.string t6))
    have HS3 := Ax.mk (step_Scan.set_box hS3 (.string t6))
    clear hJ3 hS3 hy hR
    gi_wp2
    gi_roundg k1
    case rel => exact ⟨t6, a1 ++ [⟨t1, t2, t3, t4, t5⟩], H, HS3, HJ3⟩
    case measure => omega
   ·have hh := H.out
    rw [if_neg h0] at hh
    cases hh
    have c1 : (t7 == 0) = false := beq_eq_false_iff_ne.mpr h0
    have c2 : (t7 != 0) = true := bne_iff_ne.mpr h0
    clear h0 H
    gi_wp2_with (
     refine ⟨trivial, fun h => absurd h (by simp [Fence.wide]), ?_⟩
     gi_at_call 27
     refine (callsIn_wide.2 (step_Take.calls k1 s1 t1 t2 t3 t4 t5 t6 t7 wr HTk.out (HT.out _ _ _ HJ.out))).mono ?_
     rintro e w1 ⟨rfl, hb1⟩
     have HJ2 := Ax.mk (HB.out _ _ _ _ (HB.out _ _ _ _ HJ.out hb1) (HA.out w1))
     clear hc hb1)
    refine ⟨fun _ h => (by cases h), ?_⟩
    gi_wp2
    refine bodyPost_ret (results_none rfl _ _ _) rfl ?_
    exact ⟨⟨_, rfl⟩, HJ2.out⟩
structure step_Scan.At (w : World) (acc : List S24) (s : ByteArray) (Sb : Nat) (W : World) : Prop where
 row : ∃ v, W.heap[w.heap.size]? = some (.cells #[v] 29 (0, 0)) ∧ Kd.R k24 24 W w.heap.size (fun b => b ≠ Sb) v acc
 left : W.heap[w.heap.size + 1]? = some (.cells #[.string s] 9 (0, 0))
 below : Below w.heap.size w W
theorem step_Scan.put_cells {W : World} {g L : Nat} {c : Array Value} {t : TypeId} {f : Nat × Nat} {r : Loop} (h : W.heap[g]? = some (.cells c t f)) (hl : W.heap[L]? = some (.loop r)) (o : Obj) : (W.putObj L o).heap[g]? = some (.cells c t f) :=
 (World.putObj_heap_other (fun e => by rw [e, hl] at h; cases h)).trans h
theorem step_Scan.put_R {d : Kd S24} {e : Nat} {W : World} {base : Nat} {ok : Nat → Prop} {v : Value} {xs : List S24} {L : Nat} {r : Loop} (h : d.R e W base ok v xs) (hl : W.heap[L]? = some (.loop r)) (o : Obj) : d.R e (W.putObj L o) base ok v xs :=
 Kd.R_mono (Kd.R_move (Kd.R_bound h) (fun k hk => World.putObj_heap_other (fun e => by obtain ⟨_, _, _, _, _, c, hc⟩ := hk; rw [e, hl] at hc; cases hc))) (fun _ hk => hk.1)
theorem step_Scan.put_defs {d : Kd S24} {e : Nat} {W : World} {base : Nat} {ok : Nat → Prop} {v : Value} {xs : List S24} {D : Nat} {ds : Option (List Deferred)} (h : d.R e W base ok v xs) (hl : W.heap[D]? = some (.deferred ds)) (o : Obj := .deferred none) : d.R e (W.putObj D o) base ok v xs :=
 Kd.R_mono (Kd.R_move (Kd.R_bound h) (fun k hk => World.putObj_heap_other (fun e => by obtain ⟨_, _, _, _, _, c, hc⟩ := hk; rw [e, hl] at hc; cases hc))) (fun _ hk => hk.1)
theorem step_Scan.at_put {w : World} {acc : List S24} {s : ByteArray} {Sb : Nat} {W : World} {L : Nat} {r : Loop} (h : step_Scan.At w acc s Sb W) (hl : W.heap[L]? = some (.loop r)) (hL : w.heap.size ≤ L) (o : Obj) : step_Scan.At w acc s Sb (W.putObj L o) := by
 obtain ⟨⟨v, h1, h2⟩, h3, h4⟩ := h
 exact ⟨⟨v, step_Scan.put_cells h1 hl o, step_Scan.put_R h2 hl o⟩, step_Scan.put_cells h3 hl o, h4.trans (belowK_b (w := w) (Nat.le_refl _) W L _ o hL hl rfl rfl)⟩
theorem step_Scan.rounds {fn : FuncId} {tm : Array Value} {ps : Array Tmp} {as_ bd : Code} {L D Sb m k : Nat} {w : World} (HT : Tabs w) (hSb : Sb = w.heap.size + 2) (r : List S24 × ByteArray) (s : ByteArray) (h : step_Scan.l k s [] = some r) (W : World)
  (hr : RngAt fn tm ps as_ bd L D .ready W) (hS : W.heap[Sb]? = some (.cells #[.string s] 9 (0, 0))) (hA : step_Scan.At w [] s Sb W)
  (hY : ∀ acc (x : S24) s rest W v, RngAt fn tm ps as_ bd L D .ready W → step_Scan.At w acc s Sb W → acc.length ≤ 1000000 → W.heap[Sb]? = some (.cells #[v] 9 (0, 0)) → YieldAt Fence.wide (m - 1) Tryd.prog L #[.agg #[.int .i64 x.f0, .int .i64 x.f1, .int .i64 x.f2, .int .u64 x.f3, .string x.f4], .string rest] W fun e W' =>
   e = .returned (.bool true) ∧ (RngAt fn tm ps as_ bd L D .ready W' ∧ step_Scan.At w (acc ++ [x]) rest Sb W') ∧ W'.heap[Sb]? = some (.cells #[v] 9 (0, 0))) :
  CallsIn Fence.wide m Tryd.prog 73 #[.func (.yield L) #[] #[], .pointer (some ⟨Sb, 0, none⟩)] W fun e W' => (∃ v, e = .returned v) ∧ RngAt fn tm ps as_ bd L D .ready W' ∧ step_Scan.At w r.1 r.2 Sb W' := by
 refine step_Scan.iter m L Sb k (fun acc s W => RngAt fn tm ps as_ bd L D .ready W ∧ step_Scan.At w acc s Sb W) r ?_ ?_ ?_ ?_ s [] h W hS ⟨hr, hA⟩
 ·rintro acc s W W' ⟨⟨h1, h2⟩, ⟨⟨v, h3, h4⟩, h5, h6⟩⟩ hb
  exact ⟨⟨(hb.block _ (Array.getElem?_eq_some_iff.1 h1).1).trans h1, (hb.block _ (Array.getElem?_eq_some_iff.1 h2).1).trans h2⟩, ⟨⟨v, bB h3 hb, Kd.R_below h4 hb⟩, bB h5 hb, bP h6 hb⟩⟩
 ·rintro acc s W ⟨h1, ⟨⟨v, h3, h4⟩, h5, h6⟩⟩ u
  exact ⟨rng_others h1 (KeepsOthers.setCell _ _ _), ⟨⟨v, bR (p := ⟨Sb, 0, none⟩) h3 (show w.heap.size ≠ Sb by omega) _, Kd.R_far (p := ⟨Sb, 0, none⟩) h4 (fun _ hk => hk) u⟩, bR (p := ⟨Sb, 0, none⟩) h5 (show w.heap.size + 1 ≠ Sb by omega) _, below_set h6 (by omega)⟩⟩
 ·rintro acc s W ⟨_, h⟩
  exact HT.below h.below
 ·rintro acc x s rest W v ⟨h1, h2⟩ hl hS
  exact hY acc x s rest W v h1 h2 hl hS
set_option maxHeartbeats 8000000 in
set_option maxRecDepth 100000 in
theorem step_Scan.calls (k : Nat) (a0 : ByteArray) (r1 : List S24) (r2 : Int) (w : World) (h : step_Scan.f k a0 = some (r1, r2)) (HT : Tabs w) :
  Calls Tryd.prog 29 #[.string a0] w fun e w' => ∃ v1_ : Value, e = .returned (.tuple #[v1_, .int .i64 r2]) ∧ Kd.R k24 24 w' w.heap.size (fun _ => True) v1_ r1 ∧ Below w.heap.size w w' := by
 unfold step_Scan.f at h
 obtain ⟨⟨q1, q2⟩, h8, hh⟩ := Option.bind_eq_some_iff.1 h
 cases hh
 have H := Ax.mk h8
 have HW := Ax.mk HT
 clear h h8 HT
 refine (callsIn_wide (n := 5)).1 ?_
 refine callsIn_of_wp_marks Tryd.func29 rfl trivial ?_ rfl
 simp only [Tryd.ntmps29, List.size_toArray, List.length_cons, List.length_nil, Nat.reduceAdd, Nat.reduceSub, Array.replicate_succ, Array.replicate_zero, List.push_toArray, List.append_toArray, List.nil_append, List.cons_append]
 gi_wp2_with (refine ⟨trivial, ?_⟩; gi_at_call 59; refine (callsIn_wide.2 (step_Scan.records a0 _)).mono ?_; rintro e W2 ⟨rfl, rfl⟩)
 obtain ⟨W0, hW0⟩ : ∃ W0, ((w.alloc (.cells #[.slice none 0 0] 29)).alloc (.cells #[.string a0] 9)).alloc (.cells #[.string a0] 9) = W0 := ⟨_, rfl⟩
 have hz0 : W0.heap.size = w.heap.size + 3 := by rw [← hW0]; simp
 have hA0 : step_Scan.At w [] a0 (w.heap.size + 2) W0 := by
  rw [← hW0]
  refine ⟨⟨_, blk_alloc (blk_alloc (heap_alloc_new w _) _) _, Kd.R_nil _ _ _ _ _⟩, ?_, below_alloc (below_alloc (below_alloc (Below.refl _ _) _) _) _⟩
  have h1 := heap_alloc_new (w.alloc (.cells #[.slice none 0 0] 29)) (.cells #[.string a0] 9)
  rw [World.size_alloc] at h1
  exact blk_alloc h1 _
 have hS0 : W0.heap[w.heap.size + 2]? = some (.cells #[.string a0] 9 (0, 0)) := by
  rw [← hW0]
  have h1 := heap_alloc_new ((w.alloc (.cells #[.slice none 0 0] 29)).alloc (.cells #[.string a0] 9)) (.cells #[.string a0] 9)
  rwa [World.size_alloc, World.size_alloc] at h1
 rw [hW0]
 clear hW0
 refine rng_stmt (n := 4) (gf := 73) (lb := #[.pointer (some ⟨w.heap.size + 1 + 1, 0, none⟩)]) rfl (enters_of Tryd.func73 (by kernel_rfl) rfl) ?_
 intro fn W1 hb1 hr1
 refine (step_Scan.rounds (m := 4) (k := k) (Sb := w.heap.size + 2) (w := w) HW.out rfl (q1, q2) a0 H.out W1 hr1 (bB hS0 hb1) ⟨?_, bB hA0.left hb1, bP hA0.below hb1⟩ ?round).mono ?_
 ·obtain ⟨v, h1, h2⟩ := hA0.row
  exact ⟨v, bB h1 hb1, Kd.R_below h2 hb1⟩
 case round =>
  intro acc x s rest W v hr hA hl hS
  refine rng_round hr (by omega) rfl ?_
  intro K hK
  have HK := Lib.hid hK
  have HR := Ax.mk hr
  have HA := Ax.mk hA
  have HL := Ax.mk hl
  have HS := Ax.mk hS
  have HZ := Ax.mk hz0
  clear hK hr hA hl hS hA0 hS0 hr1 hb1 hz0
  gi_wp2
  refine HK.out _ _ (rng_others HR.out (KeepsOthers.alloc _ _)) ?_
  intro o Q hRb hQ
  have hlp : (W.alloc (.cells #[.int .i64 x.f0, .int .i64 x.f1, .int .i64 x.f2, .int .u64 x.f3, .string x.f4] 24)).heap[W0.heap.size + 1]? = some _ := (rng_others HR.out (KeepsOthers.alloc _ _)).loop
  have hA1 : step_Scan.At w acc s (w.heap.size + 2) (W.alloc (.cells #[.int .i64 x.f0, .int .i64 x.f1, .int .i64 x.f2, .int .u64 x.f3, .string x.f4] 24)) := by
   obtain ⟨⟨v, h1, h2⟩, h3, h4⟩ := HA.out
   exact ⟨⟨v, blk_alloc h1 _, Kd.R_below h2 (below_alloc (Below.refl _ _) _)⟩, blk_alloc h3 _, below_alloc h4 _⟩
  have hA5 := step_Scan.at_put hA1 hlp (by have := HZ.out; omega) o
  have hX5 := step_Scan.put_cells (heap_alloc_new W (.cells #[.int .i64 x.f0, .int .i64 x.f1, .int .i64 x.f2, .int .u64 x.f3, .string x.f4] 24)) hlp o
  have hS5 := step_Scan.put_cells (blk_alloc HS.out _) hlp o
  have hwW : w.heap.size + 2 < W.heap.size := (Array.getElem?_eq_some_iff.1 HS.out).1
  generalize (W.alloc (.cells #[.int .i64 x.f0, .int .i64 x.f1, .int .i64 x.f2, .int .u64 x.f3, .string x.f4] 24)).putObj (W0.heap.size + 1) o = W5 at hRb hQ hA5 hX5 hS5 ⊢
  clear hA1 hlp HR HA HS
  obtain ⟨⟨v1, hv1, hrow⟩, hleft, hbel⟩ := hA5
  have HQ := Lib.hid hQ
  have HRb := Ax.mk hRb
  have hc1 := (bC hv1 0).trans rfl
  have hc2 := (bC hX5 0).trans rfl
  have hc3 := (bC hX5 1).trans rfl
  have hc4 := (bC hX5 2).trans rfl
  have hc5 := (bC hX5 3).trans rfl
  have hc6 := (bC hX5 4).trans rfl
  have HV1 := Ax.mk hv1
  have HRow := Ax.mk hrow
  have HLeft := Ax.mk hleft
  have HBel := Ax.mk hbel
  have HX5 := Ax.mk hX5
  have HS5 := Ax.mk hS5
  clear hQ hRb hv1 hrow hleft hbel hX5 hS5
  refine wpIn_block ?_
  refine regIn_of_list _ _ (by kernel_rfl) ?_
  go_wp2_with (
   at_builtin
   refine Kd.R_append k24 (w0 := w) w.heap.size rfl (.tmp 13) (.tmp 15) 29 24 (.agg #[.int .i64 0, .int .i64 0, .int .i64 0, .int .u64 0, .string ⟨#[]⟩]) 48 rfl Tryd.underlying29 info24 rfl (by decide) (by omega) v1 acc x [.int .i64 x.f0, .int .i64 x.f1, .int .i64 x.f2, .int .u64 x.f3, .string x.f4] (fun b => b ≠ w.heap.size + 2) (fun _ => False) rfl rfl (k24_mkM _ _ _ x) (fun _ hk => hk.elim) (fun k hk => by have := (Array.getElem?_eq_some_iff.1 HS5.out).1; omega) HRow.out HBel.out HBel.out.size (by have := HL.out; omega) ?_
   intro v2 w6 ho hb hg hat
   obtain ⟨A2, c2, rfl⟩ := Kd.R_slice ho
   have hv2 := blk_grown HV1.out hg (Kd.R_ne HRow.out HV1.out (by decide))
   have hl2 := blk_grown HLeft.out hg (Kd.R_ne HRow.out HLeft.out (by decide))
   have hs2 := blk_grown HS5.out hg (Kd.R_ne HRow.out HS5.out (by decide))
   have hk2 : KeepsOthers W5 w6 := KeepsOthers.of_grownBy hg (fun j o hj ho => by
    obtain ⟨inner, hown⟩ := Kd.R_own HRow.out
    obtain ⟨cells, hcells⟩ := own_typed hown j hj
    rw [hcells] at ho
    cases ho
    rfl)
   have hg2 := bF hv2 0
   have hg3 := bF hl2 0
   have hd2 := (bC hv2 0).trans rfl
   have hd3 := (bC hl2 0).trans rfl
   have HV2 := Ax.mk hv2
   have HL2 := Ax.mk hl2
   have HS2 := Ax.mk hs2
   have HK2 := Ax.mk hk2
   have HRow2 := Ax.mk ho
   have HBel2 := Ax.mk hb
   clear hv2 hl2 hs2 hk2 ho hb hg hat hc1 hc2 hc3 hc4 hc5 hc6 HX5)
  have hsz : w.heap.size + 2 < w6.heap.size := (Array.getElem?_eq_some_iff.1 HS2.out).1
  have HRb6 := rng_others (rng_others (rng_others HRb.out HK2.out) (KeepsOthers.setCell _ ⟨w.heap.size, 0, none⟩ (.slice A2 (acc.length + 1) c2))) (KeepsOthers.setCell _ ⟨w.heap.size + 1, 0, none⟩ (.string rest))
  rw [List.length_append, List.length_singleton] at HRow2
  have hA8 : step_Scan.At w (acc ++ [x]) rest (w.heap.size + 2) ((w6.setCell ⟨w.heap.size, 0, none⟩ (.slice A2 (acc.length + 1) c2)).setCell ⟨w.heap.size + 1, 0, none⟩ (.string rest)) :=
   ⟨⟨_, bR (p := ⟨w.heap.size + 1, 0, none⟩) (step_Scan.set_box HV2.out _) (show w.heap.size ≠ w.heap.size + 1 by omega) _, Kd.R_set (Kd.R_set HRow2.out HV2.out (by decide) _ _) (bR (p := ⟨w.heap.size, 0, none⟩) HL2.out (show w.heap.size + 1 ≠ w.heap.size by omega) _) (by decide) _ _⟩,
    step_Scan.set_box (bR (p := ⟨w.heap.size, 0, none⟩) HL2.out (show w.heap.size + 1 ≠ w.heap.size by omega) _) _, below_set (below_set HBel2.out (Nat.le_refl _)) (by omega)⟩
  have hS8 := bR (p := ⟨w.heap.size + 1, 0, none⟩) (bR (p := ⟨w.heap.size, 0, none⟩) HS2.out (show w.heap.size + 2 ≠ w.heap.size by omega) (.slice A2 (acc.length + 1) c2)) (show w.heap.size + 2 ≠ w.heap.size + 1 by omega) (.string rest)
  refine HQ.out _ _ HRb6 (fun o hr => ⟨trivial, ⟨hr, step_Scan.at_put hA8 HRb6.loop (by have := HZ.out; omega) o⟩, step_Scan.put_cells hS8 HRb6.loop o⟩)
 ·rintro e W2 ⟨⟨v0, rfl⟩, hr2, hA2⟩
  refine ⟨⟨v0, rfl⟩, hr2, fun o => ?_⟩
  have hlt : W0.heap.size < W2.heap.size := (Array.getElem?_eq_some_iff.1 hr2.defs).1
  have hD := (World.putObj_heap_other (o := o) (show W0.heap.size ≠ W0.heap.size + 1 by omega)).trans hr2.defs
  obtain ⟨⟨v, hv, hrow⟩, hleft, hbel⟩ := step_Scan.at_put hA2 hr2.loop (by omega) o
  generalize W2.putObj (W0.heap.size + 1) o = W3 at hD hv hrow hleft hbel ⊢
  obtain ⟨A2, c2, rfl⟩ := Kd.R_slice hrow
  have hd1 : W3.drew.cell? ⟨w.heap.size, 0, none⟩ = some (.slice A2 q1.length c2) ∧ W3.drew.cell? ⟨w.heap.size + 1, 0, none⟩ = some (.string q2) := ⟨(bC hv 0).trans rfl, (bC hleft 0).trans rfl⟩
  have HD := Ax.mk hD
  have HRow := Ax.mk hrow
  have HBel := Ax.mk hbel
  have HZ := Ax.mk hz0
  have HZ3 : W0.heap.size < W3.heap.size := (Array.getElem?_eq_some_iff.1 hD).1
  clear hA0 hS0 hr1 hb1 hr2 hA2 hv hleft hD hrow hbel hlt hz0
  gi_wp2
  refine wpIn_wide.2 ?_
  go_region_held3 (fun V => V.cell? ⟨w.heap.size, 0, none⟩ = some (.slice A2 q1.length c2) ∧ V.cell? ⟨w.heap.size + 1, 0, none⟩ = some (.string q2)) (exact hd1) (fail)
  gi_wp2
  refine ⟨by simp, .inl ⟨_, _, rfl, run_takeDeferred (w := W3.drew) HD.out, ?_⟩⟩
  have hw : wrap64 ((a0.size : Int) - (q2.size : Int)) = IntKind.i64.wrap ((a0.size : Int) - (q2.size : Int)) := (i64_w _).symm
  rw [hw]
  refine ⟨_, results_tmp2 rfl _ _ _, _, rfl, Kd.R_mono (step_Scan.put_defs (Kd.R_drew HRow.out) HD.out) (fun _ _ => trivial), ?_⟩
  exact (below_drew1 HBel.out).trans (belowK_b (w := w) (Nat.le_refl _) W3.drew W0.heap.size _ _ (by have := HZ.out; omega) HD.out rfl rfl)
def l12_shown.f (k : Nat)  : Option (Bool) := (step_Put.f k 3 5 0 0 (⟨#[]⟩ : ByteArray)).bind fun bt115 => (if bt115.2 = 0 then (if (bt115.1.size : Int) = 23 then (if 0 ≤ 19 then (if 19 ≤ (bt115.1.size : Int) then (some ((bt115.1.extract 0 19).toList == ([21, 0, 3, 5, 0, 0, 0, 0, 0, 0, 0, 0, 0, 0, 0, 0, 0, 0, 0] : List UInt8))) else (none)) else (none)) else (none)) else (none))
theorem l12_shown.mono : ∀ k, LeO (l12_shown.f k ) (l12_shown.f (k + 1) ) := by
 intro  k
 unfold l12_shown.f
 repeat' first
   | (with_reducible exact step_Put.mono _ _ _ _ _ _)
   | (with_reducible exact LeO.refl _)
   | (with_reducible exact LeO.none _)
   | (with_reducible refine LeO.ite ?_ ?_)
   | (with_reducible refine LeO.bind ?_ (fun _ => ?_))
   | exact step_Put.mono _ _ _ _ _ _
   | exact LeO.none _
   | refine LeO.ite ?_ ?_
   | refine LeO.bind ?_ (fun _ => ?_)
set_option maxHeartbeats 8000000 in
set_option maxRecDepth 100000 in
theorem l12_shown.calls (k : Nat)  (r : Bool) (w : World) (h : l12_shown.f k  = some r) (HT : Tabs w) :
  Calls Tryd.prog 17 #[] w fun e w' => e = .returned (.bool r) ∧ Below w.heap.size w w' := by
 have hu24 := Tryd.underlying24
 have HB := Ax.mk (Below.refl w.heap.size w)
 have H : ((step_Put.f k 3 5 0 0 (⟨#[]⟩ : ByteArray)).bind fun bt115 => (if bt115.2 = 0 then (if (bt115.1.size : Int) = 23 then (if 0 ≤ 19 then (if 19 ≤ (bt115.1.size : Int) then (some ((bt115.1.extract 0 19).toList == ([21, 0, 3, 5, 0, 0, 0, 0, 0, 0, 0, 0, 0, 0, 0, 0, 0, 0, 0] : List UInt8))) else (none)) else (none)) else (none)) else (none))) = some r := h
 clear h
 replace H := Option.bind_eq_some_iff.mp H
 obtain ⟨⟨t115, t116⟩, A10, H⟩ := H
 replace H : (if t116 = 0 then (if (t115.size : Int) = 23 then (if 0 ≤ 19 then (if 19 ≤ (t115.size : Int) then (some ((t115.extract 0 19).toList == ([21, 0, 3, 5, 0, 0, 0, 0, 0, 0, 0, 0, 0, 0, 0, 0, 0, 0, 0] : List UInt8))) else (none)) else (none)) else (none)) else (none)) = some r := H
 have A1 := Ax.mk A10
 clear A10
 by_cases c2 : t116 = 0
 ·rw [if_pos c2] at H
  have c2b0 : (t116 == 0) = true := beq_iff_eq.mpr c2
  have c2b1 : (t116 != 0) = false := bne_eq_false_iff_eq.mpr c2
  clear c2
  by_cases c3 : (t115.size : Int) = 23
  ·rw [if_pos c3] at H
   have c3b0 : ((t115.size : Int) == 23) = true := beq_iff_eq.mpr c3
   have c3b1 : ((t115.size : Int) != 23) = false := bne_eq_false_iff_eq.mpr c3
   clear c3
   by_cases c4 : 0 ≤ 19
   ·rw [if_pos c4] at H
    have c4b0 := eq_true c4
    have c4b1 : decide (0 ≤ 19) = true := decide_eq_true c4
    clear c4
    by_cases c5 : 19 ≤ (t115.size : Int)
    ·rw [if_pos c5] at H
     have c5b0 := eq_true c5
     have c5b1 : decide (19 ≤ (t115.size : Int)) = true := decide_eq_true c5
     clear c5
     obtain rfl := Option.some.inj H
     go_enter Tryd.func17, Tryd.ntmps17
     go_wp2_with (first | ((with_reducible refine gate_callee (f := 19) rfl ?_); refine goesL_ (some 5) rfl rfl Tryd.func19 (by kernel_rfl) rfl #[.agg #[.int .i64 3, .int .i64 5, .int .i64 0, .int .u64 0, .string (⟨#[]⟩ : ByteArray)]] rfl (by (try simp only [List.map_toArray, List.map_cons, List.map_nil]); first | done | rfl | (simp only [List.length_drop, List.length_take]; rfl) | (rw [wrap_sum2 (by assumption)]; rfl)) ?_; (with_reducible refine (step_Put.calls k 3 5 0 0 (⟨#[]⟩ : ByteArray) t115 t116 _ A1.out (HT.below bA)).mono ?_); rintro e w6 ⟨rfl, hb⟩; refine ⟨_, rfl, ?_⟩; have n0_ := Ax.mk (bP bA hb); clear HB; have HB := n0_; clear n0_; (try clear hb); (try clear hb2); (try clear hk); (try clear hi)))
     go_ret
     exact ⟨by first | rfl | (simp [errW_none, errW_some] <;> rfl) | (simp [*, errW_none, errW_some] <;> rfl), bA⟩
    ·rw [if_neg c5] at H
     exact absurd H (by simp)
   ·rw [if_neg c4] at H
    exact absurd H (by simp)
  ·rw [if_neg c3] at H
   exact absurd H (by simp)
 ·rw [if_neg c2] at H
  exact absurd H (by simp)
def l12_steps.l0 : Nat → List (S24) → List (S26) → Int → Option ((List (S26)))
 | 0, _, _, _ => none
 | k + 1, x0, x3, x4 => if x4 < (x0.length : Int) then (if 0 ≤ x4 then (if x3.length < 2932031007402 then (l12_steps.l0 k x0 (x3 ++ [(⟨(rd_T24 x0 x4).f0, (rd_T24 x0 x4).f1, (rd_T24 x0 x4).f2, (rd_T24 x0 x4).f3, (rd_T24 x0 x4).f4⟩ : S26)]) (wrap64 (x4 + 1))) else (none)) else (none)) else (some x3)
def l12_steps.f (k : Nat) (l0 : List (S24)) : Option ((List (S26))) := l12_steps.l0 k l0 ([] : List (S26)) 0
theorem l12_steps.mono_l : ∀ k, (∀ y0 y1 y2, LeO (l12_steps.l0 k y0 y1 y2) (l12_steps.l0 (k + 1) y0 y1 y2))
 | 0 => fun _ _ _ r h => by simp [l12_steps.l0] at h
 | k + 1 => by
  have ih0 := l12_steps.mono_l k
  ·intro y0 y1 y2
   unfold l12_steps.l0
   repeat' first
   | (with_reducible exact ih0 _ _ _)
   | (with_reducible exact LeO.refl _)
   | (with_reducible exact LeO.none _)
   | (with_reducible refine LeO.ite ?_ ?_)
   | (with_reducible refine LeO.bind ?_ (fun _ => ?_))
   | exact ih0 _ _ _
   | exact LeO.none _
   | refine LeO.ite ?_ ?_
   | refine LeO.bind ?_ (fun _ => ?_)
theorem l12_steps.mono : ∀ a0 k, LeO (l12_steps.f k a0) (l12_steps.f (k + 1) a0) := by
 intro a0 k
 have ih0 := l12_steps.mono_l k
 unfold l12_steps.f
 repeat' first
   | (with_reducible exact ih0 _ _ _)
   | (with_reducible exact LeO.refl _)
   | (with_reducible exact LeO.none _)
   | (with_reducible refine LeO.ite ?_ ?_)
   | (with_reducible refine LeO.bind ?_ (fun _ => ?_))
   | exact ih0 _ _ _
   | exact LeO.none _
   | refine LeO.ite ?_ ?_
   | refine LeO.bind ?_ (fun _ => ?_)
set_option maxHeartbeats 8000000 in
set_option maxRecDepth 100000 in
theorem l12_steps.calls (k : Nat) (A0 : Option Addr) (c0 : Nat) (l0 : List (S24)) (r : List (S26)) (w : World) (hr0 : Kd.C k24 w A0 l0.length l0) (hc0 : l0.length ≤ c0) (h : l12_steps.f k l0 = some r) :
  Calls Tryd.prog 18 #[.slice A0 l0.length c0] w fun e w' => ∃ v0_ : Value, e = .returned (v0_) ∧ Kd.R k26 26 w' w.heap.size (fun _ => True) v0_ r ∧ Below w.heap.size w w' := by
 have hu24 := Tryd.underlying24
 have hu26 := Tryd.underlying26
 have HR0 := Ax.mk hr0
 have HC0 := Ax.mk hc0
 clear hr0 hc0
 have HB := Ax.mk (Below.refl w.heap.size w)
 have H : (l12_steps.l0 k l0 ([] : List (S26)) 0) = some r := h
 clear h
 have H' := Ax.mk H
 clear H
 go_enter Tryd.func18, Tryd.ntmps18
 go_wp2
 go_loopg [3, 4] k (fun kq v3 v4 w' => ∃ (x3_1 : List (S26)) (x4_1 : Int), v4 = .int .i64 x4_1 ∧ Ax (l12_steps.l0 kq l0 x3_1 x4_1 = some r) ∧ Ax (kq ≤ k) ∧ Ax (Kd.R k26 26 w' w.heap.size (fun _ => True) v3 x3_1) ∧ Ax (Below w.heap.size w w'))
 case atStart => exact ⟨(([] : List (S26))), (0), (by first | rfl | (simp; done) | (simp [*]; done)), H', ⟨Nat.le_refl _⟩, ⟨by first | exact Kd.R_nil _ _ _ _ _ | exact Kd.N_nil _ _ _ _ _ | exact Kd.V_nil _ _ _ _ _ | exact Kd.Q_nil _ _ _ _ _ | exact Kd.S_nil _ _ _ _ _⟩, ⟨bA⟩⟩
 case round =>
  clear H'
  try clear c1
  obtain ⟨x3_1, x4_1, rfl, HA, HK1, HO_3, HB⟩ := hrel
  cases gk with
  | zero => exact absurd HA.out (by simp [l12_steps.l0])
  | succ k1 =>
   have H := HA.out
   clear HA
   simp only [l12_steps.l0] at H
   by_cases c2 : x4_1 < (l0.length : Int)
   ·rw [if_pos c2] at H
    have c2b0 : decide (x4_1 < (l0.length : Int)) = true := decide_eq_true c2
    clear c2
    by_cases c3 : 0 ≤ x4_1
    ·rw [if_pos c3] at H
     have c3b0 : decide (0 ≤ x4_1) = true := decide_eq_true c3
     clear c3
     by_cases c4 : x3_1.length < 2932031007402
     ·rw [if_pos c4] at H
      have LMc4 := Ax.mk c4
      clear c4
      obtain ⟨y119, hy119⟩ : ∃ y_ : List (S26), y_ = (x3_1 ++ [(⟨(rd_T24 l0 x4_1).f0, (rd_T24 l0 x4_1).f1, (rd_T24 l0 x4_1).f2, (rd_T24 l0 x4_1).f3, (rd_T24 l0 x4_1).f4⟩ : S26)]) := ⟨_, rfl⟩
      replace H : (l12_steps.l0 k1 l0 y119 (wrap64 (x4_1 + 1))) = some r := by first | (rw [hy119]; with_reducible exact H) | (have H2_ := (Option.bind_some _ _).symm.trans H; rw [hy119]; with_reducible exact H2_) | (have H2_ := (Option.bind_some _ _).symm.trans H; with_reducible exact H2_) | with_reducible exact H | (rw [hy119]; exact H) | exact H
      have Ny119 := Ax.mk hy119
      clear hy119
      have H' := Ax.mk H
      clear H
      have p117 : 0 ≤ (x4_1 : Int) := of_decide_eq_true (by first | (with_reducible assumption) | assumption)
      have q117 : x4_1 < (l0.length : Int) := of_decide_eq_true (by first | (with_reducible assumption) | assumption)
      obtain ⟨ad117, e117, hx117_0, hx117_1, hx117_2, hx117_3, hx117_4⟩ := at_T24 HR0.out x4_1 p117 q117
      cases e117
      replace hx117_0 := (HB.out.cell (World.block_lt_of_cell? w _ hx117_0)).trans hx117_0
      replace hx117_1 := (HB.out.cell (World.block_lt_of_cell? w _ hx117_1)).trans hx117_1
      replace hx117_2 := (HB.out.cell (World.block_lt_of_cell? w _ hx117_2)).trans hx117_2
      replace hx117_3 := (HB.out.cell (World.block_lt_of_cell? w _ hx117_3)).trans hx117_3
      replace hx117_4 := (HB.out.cell (World.block_lt_of_cell? w _ hx117_4)).trans hx117_4
      replace p117 := eq_true p117
      replace q117 := eq_true q117
      go_wp2_with (first | ((with_reducible refine gate_dst (N := 5) rfl ?_); refine box_event ?hg (N := 5) ?hd (cs := #[.int .i64 0, .int .i64 0, .int .i64 0, .int .u64 0, .string (⟨#[]⟩ : ByteArray)]) (t := 24) ?hr ?_; (case hd => rfl); (case hg => rfl); (case hr => first | (go_simp; done) | (go_simp; rfl)); intro gb118 hg w5 hbox hb; have n0_ := Ax.mk (Kd.R_below (by exact Kd.R_to HO_3.out) hb); have n1_ := Ax.mk (bP bA hb); have n2_ := Ax.mk (hbox); have n3_ := Ax.mk ((ge_new hg : w.heap.size ≤ gb118)); have n4_ := n3_; clear HO_3; clear HB; have HO_3 := n0_; have HB := n1_; have BK118 := n2_; have GW118 := n3_; have GE118 := n4_; clear n0_ n1_ n2_ n3_ n4_; clear hb hbox hg; have hcz6_0 : w5.cell? ⟨gb118, 0, none⟩ = some (.int .i64 0) := (bC BK118.out 0).trans rfl; have hcz6_1 : w5.cell? ⟨gb118, 1, none⟩ = some (.int .i64 0) := (bC BK118.out 1).trans rfl; have hcz6_2 : w5.cell? ⟨gb118, 2, none⟩ = some (.int .i64 0) := (bC BK118.out 2).trans rfl; have hcz6_3 : w5.cell? ⟨gb118, 3, none⟩ = some (.int .u64 0) := (bC BK118.out 3).trans rfl; have hcz6_4 : w5.cell? ⟨gb118, 4, none⟩ = some (.string (⟨#[]⟩ : ByteArray)) := (bC BK118.out 4).trans rfl; have hfz6_0 := bF BK118.out 0; have hfz6_1 := bF BK118.out 1; have hfz6_2 := bF BK118.out 2; have hfz6_3 := bF BK118.out 3; have hfz6_4 := bF BK118.out 4) | ((with_reducible refine gate_builtin (b := .append) (xs := #[.tmp 16, .tmp 28]) rfl ?_); at_builtin; refine Kd.R_append k26 (w0 := w) w.heap.size rfl (.tmp 16) (.tmp 28) 27 26 (.agg #[(.int .i64 0), (.int .i64 0), (.int .i64 0), (.int .u64 0), (.string ⟨#[]⟩)]) 48 rfl Tryd.underlying27 info26 rfl (by decide) (by omega) u3 x3_1 (⟨(rd_T24 l0 x4_1).f0, (rd_T24 l0 x4_1).f1, (rd_T24 l0 x4_1).f2, (rd_T24 l0 x4_1).f3, (rd_T24 l0 x4_1).f4⟩ : S26) [.int .i64 ((rd_T24 l0 x4_1).f0), .int .i64 ((rd_T24 l0 x4_1).f1), .int .i64 ((rd_T24 l0 x4_1).f2), .int .u64 ((rd_T24 l0 x4_1).f3), .string ((rd_T24 l0 x4_1).f4)] (fun _ => True) (fun _ => False) rfl (by first | (go_simp; done) | (go_simp; rfl)) ?aP (fun _ hk => hk.elim) ?aF ?aO ?aB ?aS ?aL ?_; (case aP => exact k26_mkM _ _ _ (⟨(rd_T24 l0 x4_1).f0, (rd_T24 l0 x4_1).f1, (rd_T24 l0 x4_1).f2, (rd_T24 l0 x4_1).f3, (rd_T24 l0 x4_1).f4⟩ : S26)); (case aB => exact bA); (case aF => exact (fun _ _ => trivial)); (case aO => exact (by apply Kd.R_to; exact Kd.R_mono (Kd.R_far (p := ⟨gb118, 4, none⟩) (Kd.R_far (p := ⟨gb118, 3, none⟩) (Kd.R_far (p := ⟨gb118, 2, none⟩) (Kd.R_far (p := ⟨gb118, 1, none⟩) (Kd.R_far (p := ⟨gb118, 0, none⟩) (Kd.R_types HO_3.out BK118.out (by decide)) (fun _ hk => hk.2) (.int .i64 ((rd_T24 l0 x4_1).f0))) (fun _ hk => hk.2) (.int .i64 ((rd_T24 l0 x4_1).f1))) (fun _ hk => hk.2) (.int .i64 ((rd_T24 l0 x4_1).f2))) (fun _ hk => hk.2) (.int .u64 ((rd_T24 l0 x4_1).f3))) (fun _ hk => hk.2) (.string ((rd_T24 l0 x4_1).f4))) (fun _ hk => trivial))); (case aS => exact (bS bA)); (case aL => have := LMc4.out; omega); intro v120 w7 ho hb hg hat; rw [← Ny119.out] at ho; have n0_ := Ax.mk (blk_grown (g := gb118) (o := .cells #[.int .i64 ((rd_T24 l0 x4_1).f0), .int .i64 ((rd_T24 l0 x4_1).f1), .int .i64 ((rd_T24 l0 x4_1).f2), .int .u64 ((rd_T24 l0 x4_1).f3), .string ((rd_T24 l0 x4_1).f4)] 24 (0, 0)) (by refine bT ?_; refine bU (cs := #[.int .i64 ((rd_T24 l0 x4_1).f0), .int .i64 ((rd_T24 l0 x4_1).f1), .int .i64 ((rd_T24 l0 x4_1).f2), .int .u64 ((rd_T24 l0 x4_1).f3), .string (⟨#[]⟩ : ByteArray)]) ?_ 4 _ rfl; refine bT ?_; refine bU (cs := #[.int .i64 ((rd_T24 l0 x4_1).f0), .int .i64 ((rd_T24 l0 x4_1).f1), .int .i64 ((rd_T24 l0 x4_1).f2), .int .u64 0, .string (⟨#[]⟩ : ByteArray)]) ?_ 3 _ rfl; refine bT ?_; refine bU (cs := #[.int .i64 ((rd_T24 l0 x4_1).f0), .int .i64 ((rd_T24 l0 x4_1).f1), .int .i64 0, .int .u64 0, .string (⟨#[]⟩ : ByteArray)]) ?_ 2 _ rfl; refine bT ?_; refine bU (cs := #[.int .i64 ((rd_T24 l0 x4_1).f0), .int .i64 0, .int .i64 0, .int .u64 0, .string (⟨#[]⟩ : ByteArray)]) ?_ 1 _ rfl; refine bT ?_; refine bU (cs := #[.int .i64 0, .int .i64 0, .int .i64 0, .int .u64 0, .string (⟨#[]⟩ : ByteArray)]) ?_ 0 _ rfl; exact bT BK118.out) hg (Kd.R_ne HO_3.out BK118.out (by decide))); have n1_ := Ax.mk (hb); have n2_ := Ax.mk (ho); clear BK118; clear HB; clear HO_3; have BK118 := n0_; have HB := n1_; have HO121 := n2_; clear n0_ n1_ n2_; clear ho hb hg hat))
      go_roundg k1
      case measure => have := HK1.out; omega
      case rel => exact ⟨(y119), (wrap64 (x4_1 + 1)), (by first | rfl | (simp; done) | (simp [*]; done)), H', ⟨by have := HK1.out; omega⟩, ⟨by apply Kd.R_to; exact HO121.out⟩, ⟨bA⟩⟩
     ·rw [if_neg c4] at H
      exact absurd H (by simp)
    ·rw [if_neg c3] at H
     exact absurd H (by simp)
   ·rw [if_neg c2] at H
    have c2b0 : decide (x4_1 < (l0.length : Int)) = false := decide_eq_false c2
    clear c2
    obtain rfl := Option.some.inj H
    go_wp2
    go_ret
    exact ⟨_, by first | rfl | (simp [errW_none, errW_some] <;> rfl) | (simp [*, errW_none, errW_some] <;> rfl), by apply Kd.R_to; exact HO_3.out, bA⟩
def l12_sameSteps.l0 : Nat → List (S24) → List (S26) → Int → Option (Bool)
 | 0, _, _, _ => none
 | k + 1, x0, x1, x5 => if x5 < (x0.length : Int) then (if 0 ≤ x5 then (if x5 < (x1.length : Int) then (if ((rd_T24 x0 x5).f0) = ((rd_T26 x1 x5).f0) then (if ((rd_T24 x0 x5).f1) = ((rd_T26 x1 x5).f1) then (if ((rd_T24 x0 x5).f2) = ((rd_T26 x1 x5).f2) then (if ((rd_T24 x0 x5).f3) = ((rd_T26 x1 x5).f3) then (if ((rd_T24 x0 x5).f4).toList = ((rd_T26 x1 x5).f4).toList then (l12_sameSteps.l0 k x0 x1 (wrap64 (x5 + 1))) else (none)) else (none)) else (none)) else (none)) else (none)) else (none)) else (none)) else (some true)
def l12_sameSteps.f (k : Nat) (l0 : List (S24)) (l1 : List (S26)) : Option (Bool) := if (l0.length : Int) = (l1.length : Int) then (l12_sameSteps.l0 k l0 l1 0) else (none)
theorem l12_sameSteps.mono_l : ∀ k, (∀ y0 y1 y2, LeO (l12_sameSteps.l0 k y0 y1 y2) (l12_sameSteps.l0 (k + 1) y0 y1 y2))
 | 0 => fun _ _ _ r h => by simp [l12_sameSteps.l0] at h
 | k + 1 => by
  have ih0 := l12_sameSteps.mono_l k
  ·intro y0 y1 y2
   unfold l12_sameSteps.l0
   repeat' first
   | (with_reducible exact ih0 _ _ _)
   | (with_reducible exact LeO.refl _)
   | (with_reducible exact LeO.none _)
   | (with_reducible refine LeO.ite ?_ ?_)
   | (with_reducible refine LeO.bind ?_ (fun _ => ?_))
   | exact ih0 _ _ _
   | exact LeO.none _
   | refine LeO.ite ?_ ?_
   | refine LeO.bind ?_ (fun _ => ?_)
theorem l12_sameSteps.mono : ∀ a0 a1 k, LeO (l12_sameSteps.f k a0 a1) (l12_sameSteps.f (k + 1) a0 a1) := by
 intro a0 a1 k
 have ih0 := l12_sameSteps.mono_l k
 unfold l12_sameSteps.f
 repeat' first
   | (with_reducible exact ih0 _ _ _)
   | (with_reducible exact LeO.refl _)
   | (with_reducible exact LeO.none _)
   | (with_reducible refine LeO.ite ?_ ?_)
   | (with_reducible refine LeO.bind ?_ (fun _ => ?_))
   | exact ih0 _ _ _
   | exact LeO.none _
   | refine LeO.ite ?_ ?_
   | refine LeO.bind ?_ (fun _ => ?_)
set_option maxHeartbeats 8000000 in
set_option maxRecDepth 100000 in
theorem l12_sameSteps.calls (k : Nat) (A0 : Option Addr) (c0 : Nat) (l0 : List (S24)) (A1 : Option Addr) (c1 : Nat) (l1 : List (S26)) (r : Bool) (w : World) (hr0 : Kd.C k24 w A0 l0.length l0) (hc0 : l0.length ≤ c0) (hr1 : Kd.C k26 w A1 l1.length l1) (hc1 : l1.length ≤ c1) (h : l12_sameSteps.f k l0 l1 = some r) :
  Calls Tryd.prog 26 #[.slice A0 l0.length c0, .slice A1 l1.length c1] w fun e w' => e = .returned (.bool r) ∧ Below w.heap.size w w' := by
 have hu24 := Tryd.underlying24
 have hu26 := Tryd.underlying26
 have HR0 := Ax.mk hr0
 have HC0 := Ax.mk hc0
 clear hr0 hc0
 have HR1 := Ax.mk hr1
 have HC1 := Ax.mk hc1
 clear hr1 hc1
 have HB := Ax.mk (Below.refl w.heap.size w)
 have H : (if (l0.length : Int) = (l1.length : Int) then (l12_sameSteps.l0 k l0 l1 0) else (none)) = some r := h
 clear h
 by_cases c3 : (l0.length : Int) = (l1.length : Int)
 ·rw [if_pos c3] at H
  have c3b0 : ((l0.length : Int) == (l1.length : Int)) = true := beq_iff_eq.mpr c3
  have c3b1 : ((l0.length : Int) != (l1.length : Int)) = false := bne_eq_false_iff_eq.mpr c3
  have c3b2 : (l0.length == l1.length) = true := by first | simpa using c3 | (simp at c3 ⊢; omega)
  clear c3
  have H' := Ax.mk H
  clear H
  go_enter Tryd.func26, Tryd.ntmps26
  go_wp2
  go_loopg [5] k (fun kq v5 w' => ∃ (x5_1 : Int), v5 = .int .i64 x5_1 ∧ Ax (l12_sameSteps.l0 kq l0 l1 x5_1 = some r) ∧ Ax (kq ≤ k) ∧ Ax (Below w.heap.size w w'))
  case atStart => exact ⟨(0), (by first | rfl | (simp; done) | (simp [*]; done)), H', ⟨Nat.le_refl _⟩, ⟨bA⟩⟩
  case round =>
   clear H'
   try clear c1
   try clear c2
   try clear p2
   try clear c3
   try clear c3b0
   try clear c3b1
   try clear c3b2
   obtain ⟨x5_1, rfl, HA, HK1, HB⟩ := hrel
   cases gk with
   | zero => exact absurd HA.out (by simp [l12_sameSteps.l0])
   | succ k1 =>
    have H := HA.out
    clear HA
    simp only [l12_sameSteps.l0] at H
    by_cases c4 : x5_1 < (l0.length : Int)
    ·rw [if_pos c4] at H
     have c4b0 : decide (x5_1 < (l0.length : Int)) = true := decide_eq_true c4
     clear c4
     by_cases c5 : 0 ≤ x5_1
     ·rw [if_pos c5] at H
      have c5b0 : decide (0 ≤ x5_1) = true := decide_eq_true c5
      clear c5
      by_cases c6 : x5_1 < (l1.length : Int)
      ·rw [if_pos c6] at H
       have c6b0 : decide (x5_1 < (l1.length : Int)) = true := decide_eq_true c6
       clear c6
       by_cases c7 : ((rd_T24 l0 x5_1).f0) = ((rd_T26 l1 x5_1).f0)
       ·rw [if_pos c7] at H
        have c7b0 : (((rd_T24 l0 x5_1).f0) == ((rd_T26 l1 x5_1).f0)) = true := beq_iff_eq.mpr c7
        have c7b1 : (((rd_T24 l0 x5_1).f0) != ((rd_T26 l1 x5_1).f0)) = false := bne_eq_false_iff_eq.mpr c7
        clear c7
        by_cases c8 : ((rd_T24 l0 x5_1).f1) = ((rd_T26 l1 x5_1).f1)
        ·rw [if_pos c8] at H
         have c8b0 : (((rd_T24 l0 x5_1).f1) == ((rd_T26 l1 x5_1).f1)) = true := beq_iff_eq.mpr c8
         have c8b1 : (((rd_T24 l0 x5_1).f1) != ((rd_T26 l1 x5_1).f1)) = false := bne_eq_false_iff_eq.mpr c8
         clear c8
         by_cases c9 : ((rd_T24 l0 x5_1).f2) = ((rd_T26 l1 x5_1).f2)
         ·rw [if_pos c9] at H
          have c9b0 : (((rd_T24 l0 x5_1).f2) == ((rd_T26 l1 x5_1).f2)) = true := beq_iff_eq.mpr c9
          have c9b1 : (((rd_T24 l0 x5_1).f2) != ((rd_T26 l1 x5_1).f2)) = false := bne_eq_false_iff_eq.mpr c9
          clear c9
          by_cases c10 : ((rd_T24 l0 x5_1).f3) = ((rd_T26 l1 x5_1).f3)
          ·rw [if_pos c10] at H
           have c10b0 : (((rd_T24 l0 x5_1).f3) == ((rd_T26 l1 x5_1).f3)) = true := beq_iff_eq.mpr c10
           have c10b1 : (((rd_T24 l0 x5_1).f3) != ((rd_T26 l1 x5_1).f3)) = false := bne_eq_false_iff_eq.mpr c10
           clear c10
           by_cases c11 : ((rd_T24 l0 x5_1).f4).toList = ((rd_T26 l1 x5_1).f4).toList
           ·rw [if_pos c11] at H
            have c11b0 : (((rd_T24 l0 x5_1).f4).toList == ((rd_T26 l1 x5_1).f4).toList) = true := beq_iff_eq.mpr c11
            have c11b1 : (((rd_T24 l0 x5_1).f4).toList != ((rd_T26 l1 x5_1).f4).toList) = false := bne_eq_false_iff_eq.mpr c11
            clear c11
            have H' := Ax.mk H
            clear H
            have p123 : 0 ≤ (x5_1 : Int) := of_decide_eq_true (by first | (with_reducible assumption) | assumption)
            have q123 : x5_1 < (l0.length : Int) := of_decide_eq_true (by first | (with_reducible assumption) | assumption)
            obtain ⟨ad123, e123, hx123_0, hx123_1, hx123_2, hx123_3, hx123_4⟩ := at_T24 HR0.out x5_1 p123 q123
            cases e123
            replace hx123_0 := (HB.out.cell (World.block_lt_of_cell? w _ hx123_0)).trans hx123_0
            replace hx123_1 := (HB.out.cell (World.block_lt_of_cell? w _ hx123_1)).trans hx123_1
            replace hx123_2 := (HB.out.cell (World.block_lt_of_cell? w _ hx123_2)).trans hx123_2
            replace hx123_3 := (HB.out.cell (World.block_lt_of_cell? w _ hx123_3)).trans hx123_3
            replace hx123_4 := (HB.out.cell (World.block_lt_of_cell? w _ hx123_4)).trans hx123_4
            replace p123 := eq_true p123
            replace q123 := eq_true q123
            go_wp2_with (first | ((with_reducible refine gate_dst (N := 6) rfl ?_); refine box_event ?hg (N := 6) ?hd (cs := #[.int .i64 0, .int .i64 0, .int .i64 0, .int .u64 0, .string (⟨#[]⟩ : ByteArray)]) (t := 24) ?hr ?_; (case hd => rfl); (case hg => rfl); (case hr => first | (go_simp; done) | (go_simp; rfl)); intro gb124 hg w12 hbox hb; have n0_ := Ax.mk (bP bA hb); have n1_ := Ax.mk (hbox); have n2_ := Ax.mk ((ge_new hg : w.heap.size ≤ gb124)); have n3_ := n2_; clear HB; have HB := n0_; have BK124 := n1_; have GW124 := n2_; have GE124 := n3_; clear n0_ n1_ n2_ n3_; clear hb hbox hg; have hcz13_0 : w12.cell? ⟨gb124, 0, none⟩ = some (.int .i64 0) := (bC BK124.out 0).trans rfl; have hcz13_1 : w12.cell? ⟨gb124, 1, none⟩ = some (.int .i64 0) := (bC BK124.out 1).trans rfl; have hcz13_2 : w12.cell? ⟨gb124, 2, none⟩ = some (.int .i64 0) := (bC BK124.out 2).trans rfl; have hcz13_3 : w12.cell? ⟨gb124, 3, none⟩ = some (.int .u64 0) := (bC BK124.out 3).trans rfl; have hcz13_4 : w12.cell? ⟨gb124, 4, none⟩ = some (.string (⟨#[]⟩ : ByteArray)) := (bC BK124.out 4).trans rfl; have hfz13_0 := bF BK124.out 0; have hfz13_1 := bF BK124.out 1; have hfz13_2 := bF BK124.out 2; have hfz13_3 := bF BK124.out 3; have hfz13_4 := bF BK124.out 4; have p125 : 0 ≤ (x5_1 : Int) := of_decide_eq_true (by first | (with_reducible assumption) | assumption); have q125 : x5_1 < (l1.length : Int) := of_decide_eq_true (by first | (with_reducible assumption) | assumption); obtain ⟨ad125, e125, hx125_0, hx125_1, hx125_2, hx125_3, hx125_4⟩ := at_T26 HR1.out x5_1 p125 q125; cases e125; have hn125_0 : ad125.block ≠ gb124 := Nat.ne_of_lt (Nat.lt_of_lt_of_le (by have := World.block_lt_of_cell? _ _ hx125_0; first | rwa [add_block] at this | exact this) GW124.out); have hn125_1 : ad125.block ≠ gb124 := Nat.ne_of_lt (Nat.lt_of_lt_of_le (by have := World.block_lt_of_cell? _ _ hx125_0; first | rwa [add_block] at this | exact this) GW124.out); have hn125_2 : ad125.block ≠ gb124 := Nat.ne_of_lt (Nat.lt_of_lt_of_le (by have := World.block_lt_of_cell? _ _ hx125_0; first | rwa [add_block] at this | exact this) GW124.out); have hn125_3 : ad125.block ≠ gb124 := Nat.ne_of_lt (Nat.lt_of_lt_of_le (by have := World.block_lt_of_cell? _ _ hx125_0; first | rwa [add_block] at this | exact this) GW124.out); have hn125_4 : ad125.block ≠ gb124 := Nat.ne_of_lt (Nat.lt_of_lt_of_le (by have := World.block_lt_of_cell? _ _ hx125_0; first | rwa [add_block] at this | exact this) GW124.out); replace hx125_0 := (HB.out.cell (World.block_lt_of_cell? w _ hx125_0)).trans hx125_0; replace hx125_1 := (HB.out.cell (World.block_lt_of_cell? w _ hx125_1)).trans hx125_1; replace hx125_2 := (HB.out.cell (World.block_lt_of_cell? w _ hx125_2)).trans hx125_2; replace hx125_3 := (HB.out.cell (World.block_lt_of_cell? w _ hx125_3)).trans hx125_3; replace hx125_4 := (HB.out.cell (World.block_lt_of_cell? w _ hx125_4)).trans hx125_4; replace hx125_0 := (cell_far (p := ⟨gb124, 0, none⟩) (by first | (rw [add_block]; exact hn125_0) | (show (Addr.add _ _).block ≠ _; rw [add_block]; exact hn125_0) | exact hn125_0) (.int .i64 ((rd_T24 l0 x5_1).f0))).trans hx125_0; replace hx125_1 := (cell_far (p := ⟨gb124, 0, none⟩) (by first | (rw [add_block]; exact hn125_0) | (show (Addr.add _ _).block ≠ _; rw [add_block]; exact hn125_0) | exact hn125_0) (.int .i64 ((rd_T24 l0 x5_1).f0))).trans hx125_1; replace hx125_2 := (cell_far (p := ⟨gb124, 0, none⟩) (by first | (rw [add_block]; exact hn125_0) | (show (Addr.add _ _).block ≠ _; rw [add_block]; exact hn125_0) | exact hn125_0) (.int .i64 ((rd_T24 l0 x5_1).f0))).trans hx125_2; replace hx125_3 := (cell_far (p := ⟨gb124, 0, none⟩) (by first | (rw [add_block]; exact hn125_0) | (show (Addr.add _ _).block ≠ _; rw [add_block]; exact hn125_0) | exact hn125_0) (.int .i64 ((rd_T24 l0 x5_1).f0))).trans hx125_3; replace hx125_4 := (cell_far (p := ⟨gb124, 0, none⟩) (by first | (rw [add_block]; exact hn125_0) | (show (Addr.add _ _).block ≠ _; rw [add_block]; exact hn125_0) | exact hn125_0) (.int .i64 ((rd_T24 l0 x5_1).f0))).trans hx125_4; replace hx125_0 := (cell_far (p := ⟨gb124, 1, none⟩) (by first | (rw [add_block]; exact hn125_1) | (show (Addr.add _ _).block ≠ _; rw [add_block]; exact hn125_1) | exact hn125_1) (.int .i64 ((rd_T24 l0 x5_1).f1))).trans hx125_0; replace hx125_1 := (cell_far (p := ⟨gb124, 1, none⟩) (by first | (rw [add_block]; exact hn125_1) | (show (Addr.add _ _).block ≠ _; rw [add_block]; exact hn125_1) | exact hn125_1) (.int .i64 ((rd_T24 l0 x5_1).f1))).trans hx125_1; replace hx125_2 := (cell_far (p := ⟨gb124, 1, none⟩) (by first | (rw [add_block]; exact hn125_1) | (show (Addr.add _ _).block ≠ _; rw [add_block]; exact hn125_1) | exact hn125_1) (.int .i64 ((rd_T24 l0 x5_1).f1))).trans hx125_2; replace hx125_3 := (cell_far (p := ⟨gb124, 1, none⟩) (by first | (rw [add_block]; exact hn125_1) | (show (Addr.add _ _).block ≠ _; rw [add_block]; exact hn125_1) | exact hn125_1) (.int .i64 ((rd_T24 l0 x5_1).f1))).trans hx125_3; replace hx125_4 := (cell_far (p := ⟨gb124, 1, none⟩) (by first | (rw [add_block]; exact hn125_1) | (show (Addr.add _ _).block ≠ _; rw [add_block]; exact hn125_1) | exact hn125_1) (.int .i64 ((rd_T24 l0 x5_1).f1))).trans hx125_4; replace hx125_0 := (cell_far (p := ⟨gb124, 2, none⟩) (by first | (rw [add_block]; exact hn125_2) | (show (Addr.add _ _).block ≠ _; rw [add_block]; exact hn125_2) | exact hn125_2) (.int .i64 ((rd_T24 l0 x5_1).f2))).trans hx125_0; replace hx125_1 := (cell_far (p := ⟨gb124, 2, none⟩) (by first | (rw [add_block]; exact hn125_2) | (show (Addr.add _ _).block ≠ _; rw [add_block]; exact hn125_2) | exact hn125_2) (.int .i64 ((rd_T24 l0 x5_1).f2))).trans hx125_1; replace hx125_2 := (cell_far (p := ⟨gb124, 2, none⟩) (by first | (rw [add_block]; exact hn125_2) | (show (Addr.add _ _).block ≠ _; rw [add_block]; exact hn125_2) | exact hn125_2) (.int .i64 ((rd_T24 l0 x5_1).f2))).trans hx125_2; replace hx125_3 := (cell_far (p := ⟨gb124, 2, none⟩) (by first | (rw [add_block]; exact hn125_2) | (show (Addr.add _ _).block ≠ _; rw [add_block]; exact hn125_2) | exact hn125_2) (.int .i64 ((rd_T24 l0 x5_1).f2))).trans hx125_3; replace hx125_4 := (cell_far (p := ⟨gb124, 2, none⟩) (by first | (rw [add_block]; exact hn125_2) | (show (Addr.add _ _).block ≠ _; rw [add_block]; exact hn125_2) | exact hn125_2) (.int .i64 ((rd_T24 l0 x5_1).f2))).trans hx125_4; replace hx125_0 := (cell_far (p := ⟨gb124, 3, none⟩) (by first | (rw [add_block]; exact hn125_3) | (show (Addr.add _ _).block ≠ _; rw [add_block]; exact hn125_3) | exact hn125_3) (.int .u64 ((rd_T24 l0 x5_1).f3))).trans hx125_0; replace hx125_1 := (cell_far (p := ⟨gb124, 3, none⟩) (by first | (rw [add_block]; exact hn125_3) | (show (Addr.add _ _).block ≠ _; rw [add_block]; exact hn125_3) | exact hn125_3) (.int .u64 ((rd_T24 l0 x5_1).f3))).trans hx125_1; replace hx125_2 := (cell_far (p := ⟨gb124, 3, none⟩) (by first | (rw [add_block]; exact hn125_3) | (show (Addr.add _ _).block ≠ _; rw [add_block]; exact hn125_3) | exact hn125_3) (.int .u64 ((rd_T24 l0 x5_1).f3))).trans hx125_2; replace hx125_3 := (cell_far (p := ⟨gb124, 3, none⟩) (by first | (rw [add_block]; exact hn125_3) | (show (Addr.add _ _).block ≠ _; rw [add_block]; exact hn125_3) | exact hn125_3) (.int .u64 ((rd_T24 l0 x5_1).f3))).trans hx125_3; replace hx125_4 := (cell_far (p := ⟨gb124, 3, none⟩) (by first | (rw [add_block]; exact hn125_3) | (show (Addr.add _ _).block ≠ _; rw [add_block]; exact hn125_3) | exact hn125_3) (.int .u64 ((rd_T24 l0 x5_1).f3))).trans hx125_4; replace hx125_0 := (cell_far (p := ⟨gb124, 4, none⟩) (by first | (rw [add_block]; exact hn125_4) | (show (Addr.add _ _).block ≠ _; rw [add_block]; exact hn125_4) | exact hn125_4) (.string ((rd_T24 l0 x5_1).f4))).trans hx125_0; replace hx125_1 := (cell_far (p := ⟨gb124, 4, none⟩) (by first | (rw [add_block]; exact hn125_4) | (show (Addr.add _ _).block ≠ _; rw [add_block]; exact hn125_4) | exact hn125_4) (.string ((rd_T24 l0 x5_1).f4))).trans hx125_1; replace hx125_2 := (cell_far (p := ⟨gb124, 4, none⟩) (by first | (rw [add_block]; exact hn125_4) | (show (Addr.add _ _).block ≠ _; rw [add_block]; exact hn125_4) | exact hn125_4) (.string ((rd_T24 l0 x5_1).f4))).trans hx125_2; replace hx125_3 := (cell_far (p := ⟨gb124, 4, none⟩) (by first | (rw [add_block]; exact hn125_4) | (show (Addr.add _ _).block ≠ _; rw [add_block]; exact hn125_4) | exact hn125_4) (.string ((rd_T24 l0 x5_1).f4))).trans hx125_3; replace hx125_4 := (cell_far (p := ⟨gb124, 4, none⟩) (by first | (rw [add_block]; exact hn125_4) | (show (Addr.add _ _).block ≠ _; rw [add_block]; exact hn125_4) | exact hn125_4) (.string ((rd_T24 l0 x5_1).f4))).trans hx125_4; clear hn125_0; clear hn125_1; clear hn125_2; clear hn125_3; clear hn125_4; replace p125 := eq_true p125; replace q125 := eq_true q125) | ((with_reducible refine gate_dst (N := 7) rfl ?_); refine box_event ?hg (N := 7) ?hd (cs := #[.int .i64 0, .int .i64 0, .int .i64 0, .int .u64 0, .string (⟨#[]⟩ : ByteArray)]) (t := 26) ?hr ?_; (case hd => rfl); (case hg => rfl); (case hr => first | (go_simp; done) | (go_simp; rfl)); intro gb126 hg w14 hbox hb; have n0_ := Ax.mk (bB (g := gb124) (o := .cells #[.int .i64 ((rd_T24 l0 x5_1).f0), .int .i64 ((rd_T24 l0 x5_1).f1), .int .i64 ((rd_T24 l0 x5_1).f2), .int .u64 ((rd_T24 l0 x5_1).f3), .string ((rd_T24 l0 x5_1).f4)] 24 (0, 0)) (by refine bT ?_; refine bU (cs := #[.int .i64 ((rd_T24 l0 x5_1).f0), .int .i64 ((rd_T24 l0 x5_1).f1), .int .i64 ((rd_T24 l0 x5_1).f2), .int .u64 ((rd_T24 l0 x5_1).f3), .string (⟨#[]⟩ : ByteArray)]) ?_ 4 _ rfl; refine bT ?_; refine bU (cs := #[.int .i64 ((rd_T24 l0 x5_1).f0), .int .i64 ((rd_T24 l0 x5_1).f1), .int .i64 ((rd_T24 l0 x5_1).f2), .int .u64 0, .string (⟨#[]⟩ : ByteArray)]) ?_ 3 _ rfl; refine bT ?_; refine bU (cs := #[.int .i64 ((rd_T24 l0 x5_1).f0), .int .i64 ((rd_T24 l0 x5_1).f1), .int .i64 0, .int .u64 0, .string (⟨#[]⟩ : ByteArray)]) ?_ 2 _ rfl; refine bT ?_; refine bU (cs := #[.int .i64 ((rd_T24 l0 x5_1).f0), .int .i64 0, .int .i64 0, .int .u64 0, .string (⟨#[]⟩ : ByteArray)]) ?_ 1 _ rfl; refine bT ?_; refine bU (cs := #[.int .i64 0, .int .i64 0, .int .i64 0, .int .u64 0, .string (⟨#[]⟩ : ByteArray)]) ?_ 0 _ rfl; exact bT BK124.out) hb); have n1_ := Ax.mk (bP bA hb); have n2_ := Ax.mk (hbox); have n3_ := Ax.mk ((ge_new hg : w.heap.size ≤ gb126)); have n4_ := n3_; have n5_ := Ax.mk ((by rw [hg]; exact Nat.ne_of_lt (bL (g := gb124) (o := .cells #[.int .i64 ((rd_T24 l0 x5_1).f0), .int .i64 ((rd_T24 l0 x5_1).f1), .int .i64 ((rd_T24 l0 x5_1).f2), .int .u64 ((rd_T24 l0 x5_1).f3), .string ((rd_T24 l0 x5_1).f4)] 24 (0, 0)) (by refine bT ?_; refine bU (cs := #[.int .i64 ((rd_T24 l0 x5_1).f0), .int .i64 ((rd_T24 l0 x5_1).f1), .int .i64 ((rd_T24 l0 x5_1).f2), .int .u64 ((rd_T24 l0 x5_1).f3), .string (⟨#[]⟩ : ByteArray)]) ?_ 4 _ rfl; refine bT ?_; refine bU (cs := #[.int .i64 ((rd_T24 l0 x5_1).f0), .int .i64 ((rd_T24 l0 x5_1).f1), .int .i64 ((rd_T24 l0 x5_1).f2), .int .u64 0, .string (⟨#[]⟩ : ByteArray)]) ?_ 3 _ rfl; refine bT ?_; refine bU (cs := #[.int .i64 ((rd_T24 l0 x5_1).f0), .int .i64 ((rd_T24 l0 x5_1).f1), .int .i64 0, .int .u64 0, .string (⟨#[]⟩ : ByteArray)]) ?_ 2 _ rfl; refine bT ?_; refine bU (cs := #[.int .i64 ((rd_T24 l0 x5_1).f0), .int .i64 0, .int .i64 0, .int .u64 0, .string (⟨#[]⟩ : ByteArray)]) ?_ 1 _ rfl; refine bT ?_; refine bU (cs := #[.int .i64 0, .int .i64 0, .int .i64 0, .int .u64 0, .string (⟨#[]⟩ : ByteArray)]) ?_ 0 _ rfl; exact bT BK124.out)) : gb124 ≠ gb126)); have n6_ := Ax.mk ((by rw [hg]; exact Nat.ne_of_gt (bL (g := gb124) (o := .cells #[.int .i64 ((rd_T24 l0 x5_1).f0), .int .i64 ((rd_T24 l0 x5_1).f1), .int .i64 ((rd_T24 l0 x5_1).f2), .int .u64 ((rd_T24 l0 x5_1).f3), .string ((rd_T24 l0 x5_1).f4)] 24 (0, 0)) (by refine bT ?_; refine bU (cs := #[.int .i64 ((rd_T24 l0 x5_1).f0), .int .i64 ((rd_T24 l0 x5_1).f1), .int .i64 ((rd_T24 l0 x5_1).f2), .int .u64 ((rd_T24 l0 x5_1).f3), .string (⟨#[]⟩ : ByteArray)]) ?_ 4 _ rfl; refine bT ?_; refine bU (cs := #[.int .i64 ((rd_T24 l0 x5_1).f0), .int .i64 ((rd_T24 l0 x5_1).f1), .int .i64 ((rd_T24 l0 x5_1).f2), .int .u64 0, .string (⟨#[]⟩ : ByteArray)]) ?_ 3 _ rfl; refine bT ?_; refine bU (cs := #[.int .i64 ((rd_T24 l0 x5_1).f0), .int .i64 ((rd_T24 l0 x5_1).f1), .int .i64 0, .int .u64 0, .string (⟨#[]⟩ : ByteArray)]) ?_ 2 _ rfl; refine bT ?_; refine bU (cs := #[.int .i64 ((rd_T24 l0 x5_1).f0), .int .i64 0, .int .i64 0, .int .u64 0, .string (⟨#[]⟩ : ByteArray)]) ?_ 1 _ rfl; refine bT ?_; refine bU (cs := #[.int .i64 0, .int .i64 0, .int .i64 0, .int .u64 0, .string (⟨#[]⟩ : ByteArray)]) ?_ 0 _ rfl; exact bT BK124.out)) : gb126 ≠ gb124)); clear BK124; clear HB; have BK124 := n0_; have HB := n1_; have BK126 := n2_; have GW126 := n3_; have GE126 := n4_; have NB124_126 := n5_; have NB126_124 := n6_; clear n0_ n1_ n2_ n3_ n4_ n5_ n6_; clear hb hbox hg; have hnb15 := NB126_124.out; have hnc15 := NB124_126.out; have hcz16_0 : w14.cell? ⟨gb126, 0, none⟩ = some (.int .i64 0) := (bC BK126.out 0).trans rfl; have hcz16_1 : w14.cell? ⟨gb126, 1, none⟩ = some (.int .i64 0) := (bC BK126.out 1).trans rfl; have hcz16_2 : w14.cell? ⟨gb126, 2, none⟩ = some (.int .i64 0) := (bC BK126.out 2).trans rfl; have hcz16_3 : w14.cell? ⟨gb126, 3, none⟩ = some (.int .u64 0) := (bC BK126.out 3).trans rfl; have hcz16_4 : w14.cell? ⟨gb126, 4, none⟩ = some (.string (⟨#[]⟩ : ByteArray)) := (bC BK126.out 4).trans rfl; have hfz16_0 := bF BK126.out 0; have hfz16_1 := bF BK126.out 1; have hfz16_2 := bF BK126.out 2; have hfz16_3 := bF BK126.out 3; have hfz16_4 := bF BK126.out 4; have hcz17_0 : w14.cell? ⟨gb124, 0, none⟩ = some (.int .i64 ((rd_T24 l0 x5_1).f0)) := (bC BK124.out 0).trans rfl; have hcz17_1 : w14.cell? ⟨gb124, 1, none⟩ = some (.int .i64 ((rd_T24 l0 x5_1).f1)) := (bC BK124.out 1).trans rfl; have hcz17_2 : w14.cell? ⟨gb124, 2, none⟩ = some (.int .i64 ((rd_T24 l0 x5_1).f2)) := (bC BK124.out 2).trans rfl; have hcz17_3 : w14.cell? ⟨gb124, 3, none⟩ = some (.int .u64 ((rd_T24 l0 x5_1).f3)) := (bC BK124.out 3).trans rfl; have hcz17_4 : w14.cell? ⟨gb124, 4, none⟩ = some (.string ((rd_T24 l0 x5_1).f4)) := (bC BK124.out 4).trans rfl; have hfz17_0 := bF BK124.out 0; have hfz17_1 := bF BK124.out 1; have hfz17_2 := bF BK124.out 2; have hfz17_3 := bF BK124.out 3; have hfz17_4 := bF BK124.out 4))
            go_roundg k1
            case measure => have := HK1.out; omega
            case rel => exact ⟨(wrap64 (x5_1 + 1)), (by first | rfl | (simp; done) | (simp [*]; done)), H', ⟨by have := HK1.out; omega⟩, ⟨bA⟩⟩
           ·rw [if_neg c11] at H
            exact absurd H (by simp)
          ·rw [if_neg c10] at H
           exact absurd H (by simp)
         ·rw [if_neg c9] at H
          exact absurd H (by simp)
        ·rw [if_neg c8] at H
         exact absurd H (by simp)
       ·rw [if_neg c7] at H
        exact absurd H (by simp)
      ·rw [if_neg c6] at H
       exact absurd H (by simp)
     ·rw [if_neg c5] at H
      exact absurd H (by simp)
    ·rw [if_neg c4] at H
     have c4b0 : decide (x5_1 < (l0.length : Int)) = false := decide_eq_false c4
     clear c4
     obtain rfl := Option.some.inj H
     go_wp2
     go_ret
     exact ⟨by first | rfl | (simp [errW_none, errW_some] <;> rfl) | (simp [*, errW_none, errW_some] <;> rfl), bA⟩
 ·rw [if_neg c3] at H
  exact absurd H (by simp)
def l12_shortSteps.l0 : Nat → List (S24) → Int → Option (Bool)
 | 0, _, _ => none
 | k + 1, x0, x3 => if x3 < (x0.length : Int) then (if 0 ≤ x3 then (if (((rd_T24 x0 x3).f4).size : Int) > 200 then (some false) else (l12_shortSteps.l0 k x0 (wrap64 (x3 + 1)))) else (none)) else (some true)
def l12_shortSteps.f (k : Nat) (l0 : List (S24)) : Option (Bool) := if (l0.length : Int) > 60 then (some false) else (l12_shortSteps.l0 k l0 0)
theorem l12_shortSteps.mono_l : ∀ k, (∀ y0 y1, LeO (l12_shortSteps.l0 k y0 y1) (l12_shortSteps.l0 (k + 1) y0 y1))
 | 0 => fun _ _ r h => by simp [l12_shortSteps.l0] at h
 | k + 1 => by
  have ih0 := l12_shortSteps.mono_l k
  ·intro y0 y1
   unfold l12_shortSteps.l0
   repeat' first
   | (with_reducible exact ih0 _ _)
   | (with_reducible exact LeO.refl _)
   | (with_reducible exact LeO.none _)
   | (with_reducible refine LeO.ite ?_ ?_)
   | (with_reducible refine LeO.bind ?_ (fun _ => ?_))
   | exact ih0 _ _
   | exact LeO.none _
   | refine LeO.ite ?_ ?_
   | refine LeO.bind ?_ (fun _ => ?_)
theorem l12_shortSteps.mono : ∀ a0 k, LeO (l12_shortSteps.f k a0) (l12_shortSteps.f (k + 1) a0) := by
 intro a0 k
 have ih0 := l12_shortSteps.mono_l k
 unfold l12_shortSteps.f
 repeat' first
   | (with_reducible exact ih0 _ _)
   | (with_reducible exact LeO.refl _)
   | (with_reducible exact LeO.none _)
   | (with_reducible refine LeO.ite ?_ ?_)
   | (with_reducible refine LeO.bind ?_ (fun _ => ?_))
   | exact ih0 _ _
   | exact LeO.none _
   | refine LeO.ite ?_ ?_
   | refine LeO.bind ?_ (fun _ => ?_)
set_option maxHeartbeats 8000000 in
set_option maxRecDepth 100000 in
theorem l12_shortSteps.calls (k : Nat) (A0 : Option Addr) (c0 : Nat) (l0 : List (S24)) (r : Bool) (w : World) (hr0 : Kd.C k24 w A0 l0.length l0) (hc0 : l0.length ≤ c0) (h : l12_shortSteps.f k l0 = some r) :
  Calls Tryd.prog 23 #[.slice A0 l0.length c0] w fun e w' => e = .returned (.bool r) ∧ Drawn0 w w' := by
 have HR0 := Ax.mk hr0
 have HC0 := Ax.mk hc0
 clear hr0 hc0
 have H : (if (l0.length : Int) > 60 then (some false) else (l12_shortSteps.l0 k l0 0)) = some r := h
 clear h
 by_cases c2 : (l0.length : Int) > 60
 ·rw [if_pos c2] at H
  have c2b0 : decide (60 < (l0.length : Int)) = true := decide_eq_true c2
  have c2b1 : decide (60 < l0.length) = true := decide_eq_true (by omega)
  clear c2
  obtain rfl := Option.some.inj H
  go_enter Tryd.func23, Tryd.ntmps23
  go_wp2
  go_ret
  exact ⟨by first | rfl | (simp; done) | (simp [*]; done), by repeat (first | exact Drawn0.refl _ | apply Drawn0.step)⟩
 ·rw [if_neg c2] at H
  have c2b0 : decide (60 < (l0.length : Int)) = false := decide_eq_false c2
  have c2b1 : decide (60 < l0.length) = false := decide_eq_false (by omega)
  clear c2
  have H' := Ax.mk H
  clear H
  go_enter Tryd.func23, Tryd.ntmps23
  go_wp2
  go_loopg [3] k (fun kq v3 w' => ∃ (x3_1 : Int), v3 = .int .i64 x3_1 ∧ Ax (l12_shortSteps.l0 kq l0 x3_1 = some r) ∧ Ax (kq ≤ k) ∧ Drawn0 w w')
  case atStart => exact ⟨(0), (by first | rfl | (simp; done) | (simp [*]; done)), H', ⟨Nat.le_refl _⟩, by repeat (first | exact Drawn0.refl _ | apply Drawn0.step)⟩
  case round =>
   clear H'
   try clear c2
   try clear c2b0
   try clear c2b1
   try clear p2
   obtain ⟨x3_1, rfl, HA, HK1, ⟨m1, rfl⟩⟩ := hrel
   cases gk with
   | zero => exact absurd HA.out (by simp [l12_shortSteps.l0])
   | succ k1 =>
    have H := HA.out
    clear HA
    simp only [l12_shortSteps.l0] at H
    by_cases c3 : x3_1 < (l0.length : Int)
    ·rw [if_pos c3] at H
     have c3b0 : decide (x3_1 < (l0.length : Int)) = true := decide_eq_true c3
     clear c3
     by_cases c4 : 0 ≤ x3_1
     ·rw [if_pos c4] at H
      have c4b0 : decide (0 ≤ x3_1) = true := decide_eq_true c4
      clear c4
      by_cases c5 : (((rd_T24 l0 x3_1).f4).size : Int) > 200
      ·rw [if_pos c5] at H
       have c5b0 : decide (200 < (((rd_T24 l0 x3_1).f4).size : Int)) = true := decide_eq_true c5
       have c5b1 : decide (200 < ((rd_T24 l0 x3_1).f4).size) = true := decide_eq_true (by omega)
       clear c5
       obtain rfl := Option.some.inj H
       have p122 : 0 ≤ (x3_1 : Int) := of_decide_eq_true (by first | (with_reducible assumption) | assumption)
       have q122 : x3_1 < (l0.length : Int) := of_decide_eq_true (by first | (with_reducible assumption) | assumption)
       obtain ⟨ad122, e122, hx122_0, hx122_1, hx122_2, hx122_3, hx122_4⟩ := at_T24 HR0.out x3_1 p122 q122
       cases e122
       replace p122 := eq_true p122
       replace q122 := eq_true q122
       go_wp2
       go_ret
       exact ⟨by first | rfl | (simp; done) | (simp [*]; done), by repeat (first | exact Drawn0.refl _ | apply Drawn0.step)⟩
      ·rw [if_neg c5] at H
       have c5b0 : decide (200 < (((rd_T24 l0 x3_1).f4).size : Int)) = false := decide_eq_false c5
       have c5b1 : decide (200 < ((rd_T24 l0 x3_1).f4).size) = false := decide_eq_false (by omega)
       clear c5
       have H' := Ax.mk H
       clear H
       have p122 : 0 ≤ (x3_1 : Int) := of_decide_eq_true (by first | (with_reducible assumption) | assumption)
       have q122 : x3_1 < (l0.length : Int) := of_decide_eq_true (by first | (with_reducible assumption) | assumption)
       obtain ⟨ad122, e122, hx122_0, hx122_1, hx122_2, hx122_3, hx122_4⟩ := at_T24 HR0.out x3_1 p122 q122
       cases e122
       replace p122 := eq_true p122
       replace q122 := eq_true q122
       go_wp2
       go_roundg k1
       case measure => have := HK1.out; omega
       case rel => exact ⟨(wrap64 (x3_1 + 1)), (by first | rfl | (simp; done) | (simp [*]; done)), H', ⟨by have := HK1.out; omega⟩, by repeat (first | exact Drawn0.refl _ | apply Drawn0.step)⟩
     ·rw [if_neg c4] at H
      exact absurd H (by simp)
    ·rw [if_neg c3] at H
     have c3b0 : decide (x3_1 < (l0.length : Int)) = false := decide_eq_false c3
     clear c3
     obtain rfl := Option.some.inj H
     go_wp2
     go_ret
     exact ⟨by first | rfl | (simp; done) | (simp [*]; done), by repeat (first | exact Drawn0.refl _ | apply Drawn0.step)⟩
end Go.Proofs.YtboommbclbjlnaaDoor.Fn
end
