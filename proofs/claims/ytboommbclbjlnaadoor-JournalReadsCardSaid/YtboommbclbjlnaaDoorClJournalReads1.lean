-- Packed by pack.py, a program of this session, out of texts of this claim.
import Derived.Test.YtboommbclbjlnaaDoorProg
import Derived.Below
import Derived.Deep.Draws
import Derived.Deep.AppendLies
import Derived.Maps.AppendAt
import Derived.OwnWalk
import Derived.Laws.BytesArg
import Derived.Laws.MakeOwn
import Derived.Laws.OwnMore
import Derived.Deep.OwnRows
import Derived.Tactics
import Derived.Lib.ConvBytes
import Derived.Laws.Slices
import Derived.WalkKit
import Derived.KernelRfl
import Derived.RowKit3
import Derived.Deep.LoopGhost
import Derived.Deep.QuietTactic
import Derived.BigQuiet
import Derived.WideLaws
import Derived.Deep.DeepCutAuto
import Derived.Deep.CutBlock
import Derived.Deep.RegionHeld3
import Derived.Laws.Rows
import Derived.Lib.AppendStr
import Derived.ArgAppend
import Derived.Laws.IdiomCopy
import Derived.OrdersHeld
import Derived.Laws.BitsLemmas
import Derived.RowKit
import Derived.Test.YtboommbclbjlnaaDoorLfLe
import Derived.Test.YtboommbclbjlnaaDoorLfSum
import Derived.Test.YtboommbclbjlnaaDoorLfRight
import Derived.Test.YtboommbclbjlnaaDoorClJournalReads0
import Derived.Lib.SliceRun
import Derived.Lib.Walk
import Derived.LoopTactic
import Derived.Test.YtboommbclbjlnaaDoorLfShelf
import Derived.Test.YtboommbclbjlnaaDoorLfBuild
import Derived.Lib.Hide
section
-- Written by printx.py, a program of this session over the kit's print: each Go function as a plain Lean function, and that the Go code computes it.
namespace Go.Proofs.YtboommbclbjlnaaDoor.Fn
open Go.RowKit Go.Proofs.YtboommbclbjlnaaDoorW.PrintWords Go.Proofs.YtboommbclbjlnaaDoorW.PrintLast Go.Proofs.YtboommbclbjlnaaDoorW.PrintMore Go.Proofs.YtboommbclbjlnaaDoor.Lf
attribute [local go_sem] max2_int min2_int max_two min_two max_three min_three max_four min_four   -- for this text's walks alone
set_option linter.unusedVariables false
set_option linter.unusedSimpArgs false
def errW : Option Int → Value
 | none => .nilIface
 | some c => .iface 0 (.int .i64 c)
theorem errW_none : errW none = .nilIface := rfl
theorem errW_some (c : Int) : errW (some c) = .iface 0 (.int .i64 c) := rfl
theorem info5 : (Tryd.prog.info? 5).map (fun i => (i.zero, i.size, i.bytes)) = some (some (.int .u8 0), 1, 1) := by kernel_rfl
theorem info24 : (Tryd.prog.info? 24).map (fun i => (i.zero, i.size, i.bytes)) = some (some (.agg #[(.int .i64 0), (.int .i64 0), (.int .i64 0), (.int .u64 0), (.string ⟨#[]⟩)]), 5, 48) := by kernel_rfl
theorem info26 : (Tryd.prog.info? 26).map (fun i => (i.zero, i.size, i.bytes)) = some (some (.agg #[(.int .i64 0), (.int .i64 0), (.int .i64 0), (.int .u64 0), (.string ⟨#[]⟩)]), 5, 48) := by kernel_rfl
theorem info44 : (Tryd.prog.info? 44).map (fun i => (i.zero, i.size, i.bytes)) = some (some (.agg #[(.int .u64 0), (.slice none 0 0)]), 2, 32) := by kernel_rfl
theorem info46 : (Tryd.prog.info? 46).map (fun i => (i.zero, i.size, i.bytes)) = some (some (.agg #[(.int .u64 0), (.slice none 0 0)]), 2, 32) := by kernel_rfl
structure S24 where
 f0 : Int
 f1 : Int
 f2 : Int
 f3 : Int
 f4 : ByteArray
def z24 : S24 := ⟨(0 : Int), (0 : Int), (0 : Int), (0 : Int), (⟨#[]⟩ : ByteArray)⟩
def k24 : Kd S24 := Kd.iso (Kd.pair (Kd.int .i64) (Kd.pair (Kd.int .i64) (Kd.pair (Kd.int .i64) (Kd.pair (Kd.int .u64) Kd.string)))) (fun x : S24 => (x.f0, x.f1, x.f2, x.f3, x.f4))
theorem k24_open {w : World} {x : S24} {cs : List Value} (h : k24.K w x cs) : cs = [.int .i64 x.f0, .int .i64 x.f1, .int .i64 x.f2, .int .u64 x.f3, .string x.f4] := by
 obtain ⟨_, _, rfl, rfl, ⟨_, _, rfl, rfl, ⟨_, _, rfl, rfl, ⟨_, _, rfl, rfl, rfl⟩⟩⟩⟩ := h
 exact rfl
theorem k24_mkM (w : World) (base : Nat) (ok : Nat → Prop) (x : S24)  : k24.M w base ok x [.int .i64 x.f0, .int .i64 x.f1, .int .i64 x.f2, .int .u64 x.f3, .string x.f4] := ⟨[.int .i64 x.f0], [.int .i64 x.f1, .int .i64 x.f2, .int .u64 x.f3, .string x.f4], rfl, rfl, ⟨[.int .i64 x.f1], [.int .i64 x.f2, .int .u64 x.f3, .string x.f4], rfl, rfl, ⟨[.int .i64 x.f2], [.int .u64 x.f3, .string x.f4], rfl, rfl, ⟨[.int .u64 x.f3], [.string x.f4], rfl, rfl, rfl⟩⟩⟩⟩
def rd_T24 (xs : List S24) (i : Int) : S24 := xs.getD i.toNat z24
theorem at_T24 {w : World} {A : Option Addr} {n : Nat} {xs : List S24} (h : Kd.C k24 w A n xs) (i : Int) (h0 : 0 ≤ i) (h1 : i < n) : ∃ ad , A = some ad ∧ w.cell? (ad.add (i.toNat * 5)) = some (.int .i64 (rd_T24 xs i).f0) ∧ w.cell? ⟨(ad.add (i.toNat * 5)).block, (ad.add (i.toNat * 5)).off + 1, none⟩ = some (.int .i64 (rd_T24 xs i).f1) ∧ w.cell? ⟨(ad.add (i.toNat * 5)).block, (ad.add (i.toNat * 5)).off + 2, none⟩ = some (.int .i64 (rd_T24 xs i).f2) ∧ w.cell? ⟨(ad.add (i.toNat * 5)).block, (ad.add (i.toNat * 5)).off + 3, none⟩ = some (.int .u64 (rd_T24 xs i).f3) ∧ w.cell? ⟨(ad.add (i.toNat * 5)).block, (ad.add (i.toNat * 5)).off + 4, none⟩ = some (.string (rd_T24 xs i).f4) := by
 obtain ⟨ad, c, e, _, hK, hc0⟩ := Kd.C_get h z24 i h0 h1
 have hc : ∀ j u, c[j]? = some u → w.cell? (ad.add (i.toNat * 5 + j)) = some u := hc0
 obtain rfl := k24_open hK
 exact ⟨ad, e, hc 0 _ rfl, by rw [← add_field _ _ 1 (by omega)]; exact hc 1 _ rfl, by rw [← add_field _ _ 2 (by omega)]; exact hc 2 _ rfl, by rw [← add_field _ _ 3 (by omega)]; exact hc 3 _ rfl, by rw [← add_field _ _ 4 (by omega)]; exact hc 4 _ rfl⟩
def rd_L4 (xs : List (List S24)) (i : Int) : (List S24) := xs.getD i.toNat ([] : List S24)
structure S44 where
 f0 : Int
 f1 : (List S24)
def z44 : S44 := ⟨(0 : Int), ([] : List S24)⟩
def k44 : Kd S44 := Kd.iso (Kd.pair (Kd.int .u64) (Kd.slice 24 k24)) (fun x : S44 => (x.f0, x.f1))
theorem k44_open {w : World} {x : S44} {cs : List Value} (h : k44.K w x cs) : ∃ A1 c1, cs = [.int .u64 x.f0, .slice A1 x.f1.length c1] ∧ x.f1.length ≤ c1 ∧ k24.C w A1 x.f1.length x.f1 := by
 obtain ⟨_, _, rfl, rfl, ⟨A1, c1, rfl, l1, g1⟩⟩ := h
 exact ⟨A1, c1, rfl, l1, g1⟩
theorem k44_mk (w : World) (x : S44) {A1 : Option Addr} {c1 : Nat} (l1 : x.f1.length ≤ c1) (g1 : k24.C w A1 x.f1.length x.f1) : k44.K w x [.int .u64 x.f0, .slice A1 x.f1.length c1] := ⟨[.int .u64 x.f0], [.slice A1 x.f1.length c1], rfl, rfl, ⟨A1, c1, rfl, l1, g1⟩⟩
theorem k44_mkF (W : World) (ok : Nat → Prop) (x : S44) {A1 : Option Addr} {c1 : Nat} (l1 : x.f1.length ≤ c1) (g1 : Kd.F k24 W ok A1 x.f1.length x.f1) : Kd.FK k44 W ok x [.int .u64 x.f0, .slice A1 x.f1.length c1] := fun W2 hW => k44_mk W2 x l1 (g1 W2 hW)
def rd_T44 (xs : List S44) (i : Int) : S44 := xs.getD i.toNat z44
theorem at_T44 {w : World} {A : Option Addr} {n : Nat} {xs : List S44} (h : Kd.C k44 w A n xs) (i : Int) (h0 : 0 ≤ i) (h1 : i < n) : ∃ ad A1 c1, A = some ad ∧ w.cell? (ad.add (i.toNat * 2)) = some (.int .u64 (rd_T44 xs i).f0) ∧ w.cell? ⟨(ad.add (i.toNat * 2)).block, (ad.add (i.toNat * 2)).off + 1, none⟩ = some (.slice A1 (rd_T44 xs i).f1.length c1) ∧ (rd_T44 xs i).f1.length ≤ c1 ∧ k24.C w A1 (rd_T44 xs i).f1.length (rd_T44 xs i).f1 := by
 obtain ⟨ad, c, e, _, hK, hc0⟩ := Kd.C_get h z44 i h0 h1
 have hc : ∀ j u, c[j]? = some u → w.cell? (ad.add (i.toNat * 2 + j)) = some u := hc0
 obtain ⟨A1, c1, rfl, l1, g1⟩ := k44_open hK
 exact ⟨ad, A1, c1, e, hc 0 _ rfl, by rw [← add_field _ _ 1 (by omega)]; exact hc 1 _ rfl, l1, g1⟩
def rd_L8 (xs : List (List S44)) (i : Int) : (List S44) := xs.getD i.toNat ([] : List S44)
structure S26 where
 f0 : Int
 f1 : Int
 f2 : Int
 f3 : Int
 f4 : ByteArray
def z26 : S26 := ⟨(0 : Int), (0 : Int), (0 : Int), (0 : Int), (⟨#[]⟩ : ByteArray)⟩
def k26 : Kd S26 := Kd.iso (Kd.pair (Kd.int .i64) (Kd.pair (Kd.int .i64) (Kd.pair (Kd.int .i64) (Kd.pair (Kd.int .u64) Kd.string)))) (fun x : S26 => (x.f0, x.f1, x.f2, x.f3, x.f4))
theorem k26_open {w : World} {x : S26} {cs : List Value} (h : k26.K w x cs) : cs = [.int .i64 x.f0, .int .i64 x.f1, .int .i64 x.f2, .int .u64 x.f3, .string x.f4] := by
 obtain ⟨_, _, rfl, rfl, ⟨_, _, rfl, rfl, ⟨_, _, rfl, rfl, ⟨_, _, rfl, rfl, rfl⟩⟩⟩⟩ := h
 exact rfl
theorem k26_mkM (w : World) (base : Nat) (ok : Nat → Prop) (x : S26)  : k26.M w base ok x [.int .i64 x.f0, .int .i64 x.f1, .int .i64 x.f2, .int .u64 x.f3, .string x.f4] := ⟨[.int .i64 x.f0], [.int .i64 x.f1, .int .i64 x.f2, .int .u64 x.f3, .string x.f4], rfl, rfl, ⟨[.int .i64 x.f1], [.int .i64 x.f2, .int .u64 x.f3, .string x.f4], rfl, rfl, ⟨[.int .i64 x.f2], [.int .u64 x.f3, .string x.f4], rfl, rfl, ⟨[.int .u64 x.f3], [.string x.f4], rfl, rfl, rfl⟩⟩⟩⟩
def rd_T26 (xs : List S26) (i : Int) : S26 := xs.getD i.toNat z26
theorem at_T26 {w : World} {A : Option Addr} {n : Nat} {xs : List S26} (h : Kd.C k26 w A n xs) (i : Int) (h0 : 0 ≤ i) (h1 : i < n) : ∃ ad , A = some ad ∧ w.cell? (ad.add (i.toNat * 5)) = some (.int .i64 (rd_T26 xs i).f0) ∧ w.cell? ⟨(ad.add (i.toNat * 5)).block, (ad.add (i.toNat * 5)).off + 1, none⟩ = some (.int .i64 (rd_T26 xs i).f1) ∧ w.cell? ⟨(ad.add (i.toNat * 5)).block, (ad.add (i.toNat * 5)).off + 2, none⟩ = some (.int .i64 (rd_T26 xs i).f2) ∧ w.cell? ⟨(ad.add (i.toNat * 5)).block, (ad.add (i.toNat * 5)).off + 3, none⟩ = some (.int .u64 (rd_T26 xs i).f3) ∧ w.cell? ⟨(ad.add (i.toNat * 5)).block, (ad.add (i.toNat * 5)).off + 4, none⟩ = some (.string (rd_T26 xs i).f4) := by
 obtain ⟨ad, c, e, _, hK, hc0⟩ := Kd.C_get h z26 i h0 h1
 have hc : ∀ j u, c[j]? = some u → w.cell? (ad.add (i.toNat * 5 + j)) = some u := hc0
 obtain rfl := k26_open hK
 exact ⟨ad, e, hc 0 _ rfl, by rw [← add_field _ _ 1 (by omega)]; exact hc 1 _ rfl, by rw [← add_field _ _ 2 (by omega)]; exact hc 2 _ rfl, by rw [← add_field _ _ 3 (by omega)]; exact hc 3 _ rfl, by rw [← add_field _ _ 4 (by omega)]; exact hc 4 _ rfl⟩
def rd_L10 (xs : List (List S26)) (i : Int) : (List S26) := xs.getD i.toNat ([] : List S26)
structure S46 where
 f0 : Int
 f1 : (List S26)
def z46 : S46 := ⟨(0 : Int), ([] : List S26)⟩
def k46 : Kd S46 := Kd.iso (Kd.pair (Kd.int .u64) (Kd.slice 26 k26)) (fun x : S46 => (x.f0, x.f1))
theorem k46_open {w : World} {x : S46} {cs : List Value} (h : k46.K w x cs) : ∃ A1 c1, cs = [.int .u64 x.f0, .slice A1 x.f1.length c1] ∧ x.f1.length ≤ c1 ∧ k26.C w A1 x.f1.length x.f1 := by
 obtain ⟨_, _, rfl, rfl, ⟨A1, c1, rfl, l1, g1⟩⟩ := h
 exact ⟨A1, c1, rfl, l1, g1⟩
theorem k46_mkM (w : World) (base : Nat) (ok : Nat → Prop) (x : S46) {v1 : Value} (g1 : k26.R 26 w base ok v1 x.f1) : k46.M w base ok x [.int .u64 x.f0, v1] := ⟨[.int .u64 x.f0], [v1], rfl, rfl, ⟨v1, rfl, g1⟩⟩
def rd_T46 (xs : List S46) (i : Int) : S46 := xs.getD i.toNat z46
theorem at_T46 {w : World} {A : Option Addr} {n : Nat} {xs : List S46} (h : Kd.C k46 w A n xs) (i : Int) (h0 : 0 ≤ i) (h1 : i < n) : ∃ ad A1 c1, A = some ad ∧ w.cell? (ad.add (i.toNat * 2)) = some (.int .u64 (rd_T46 xs i).f0) ∧ w.cell? ⟨(ad.add (i.toNat * 2)).block, (ad.add (i.toNat * 2)).off + 1, none⟩ = some (.slice A1 (rd_T46 xs i).f1.length c1) ∧ (rd_T46 xs i).f1.length ≤ c1 ∧ k26.C w A1 (rd_T46 xs i).f1.length (rd_T46 xs i).f1 := by
 obtain ⟨ad, c, e, _, hK, hc0⟩ := Kd.C_get h z46 i h0 h1
 have hc : ∀ j u, c[j]? = some u → w.cell? (ad.add (i.toNat * 2 + j)) = some u := hc0
 obtain ⟨A1, c1, rfl, l1, g1⟩ := k46_open hK
 exact ⟨ad, A1, c1, e, hc 0 _ rfl, by rw [← add_field _ _ 1 (by omega)]; exact hc 1 _ rfl, l1, g1⟩
def seal_Put.f (a0 : ByteArray) : Option (ByteArray) := (seal_Sum.f a0).bind fun t111 => ((le_Put.f (IntKind.u64.wrap (t111)) 4).bind fun t112 => (if a0.size + t112.size ≤ 9223372036854775807 then (some (a0 ++ t112)) else (none)))
set_option maxHeartbeats 8000000 in
set_option maxRecDepth 100000 in
theorem seal_Put.calls (a0 : ByteArray) (r : ByteArray) (w : World) (h : seal_Put.f a0 = some r) :
  Calls Tryd.prog 46 #[.string a0] w fun e w' => e = .returned (.string r) ∧ Below w.heap.size w w' := by
 have HB := Ax.mk (Below.refl w.heap.size w)
 have H : ((seal_Sum.f a0).bind fun t111 => ((le_Put.f (IntKind.u64.wrap (t111)) 4).bind fun t112 => (if a0.size + t112.size ≤ 9223372036854775807 then (some (a0 ++ t112)) else (none)))) = some r := h
 clear h
 replace H := Option.bind_eq_some_iff.mp H
 obtain ⟨t111, A20, H⟩ := H
 replace H : ((le_Put.f (IntKind.u64.wrap (t111)) 4).bind fun t112 => (if a0.size + t112.size ≤ 9223372036854775807 then (some (a0 ++ t112)) else (none))) = some r := H
 have A2 := Ax.mk A20
 clear A20
 replace H := Option.bind_eq_some_iff.mp H
 obtain ⟨t112, A30, H⟩ := H
 replace H : (if a0.size + t112.size ≤ 9223372036854775807 then (some (a0 ++ t112)) else (none)) = some r := H
 have A3 := Ax.mk A30
 clear A30
 by_cases c4 : a0.size + t112.size ≤ 9223372036854775807
 ·rw [if_pos c4] at H
  have c4b0 := eq_true c4
  have c4b1 : decide (a0.size + t112.size ≤ 9223372036854775807) = true := decide_eq_true c4
  try have c4b2 : (9223372036854775807 < a0.size + t112.size) = False := eq_false (Nat.not_lt.2 c4)
  obtain rfl := Option.some.inj H
  go_enter Tryd.func46, Tryd.ntmps46
  go_wp2_with (first | ((with_reducible refine gate_callee (f := 66) rfl ?_); refine goesL_ (some 5) rfl rfl Tryd.func66 (by kernel_rfl) rfl #[.string a0] rfl (by (try simp only [List.map_toArray, List.map_cons, List.map_nil]); first | done | rfl | (simp only [List.length_drop, List.length_take]; rfl) | (rw [wrap_sum2 (by assumption)]; rfl)) ?_; (with_reducible refine (seal_Sum.calls a0 t111 _ A2.out).mono ?_); rintro e w5 ⟨rfl, hb⟩; refine ⟨_, rfl, ?_⟩; have n0_ := Ax.mk (bP bA hb); clear HB; have HB := n0_; clear n0_; (try clear hb); (try clear hb2); (try clear hk); (try clear hi)) | ((with_reducible refine gate_callee (f := 47) rfl ?_); refine goesL_ (some 7) rfl rfl Tryd.func47 (by kernel_rfl) rfl #[.int .u64 (IntKind.u64.wrap (t111)), .int .i64 4] rfl (by (try simp only [List.map_toArray, List.map_cons, List.map_nil]); first | done | rfl | (simp only [List.length_drop, List.length_take]; rfl) | (rw [wrap_sum2 (by assumption)]; rfl)) ?_; (with_reducible refine (le_Put.calls (IntKind.u64.wrap (t111)) 4 t112 _ A3.out).mono ?_); rintro e w6 ⟨rfl, hb⟩; refine ⟨_, rfl, ?_⟩; have n0_ := Ax.mk (bP bA hb); clear HB; have HB := n0_; clear n0_; (try clear hb); (try clear hb2); (try clear hk); (try clear hi)))
  go_ret
  exact ⟨by first | rfl | (simp [errW_none, errW_some] <;> rfl) | (simp [*, errW_none, errW_some] <;> rfl), bA⟩
 ·rw [if_neg c4] at H
  exact absurd H (by simp)
def r2_Put.l0 : Nat → Int → Int → List Int → Int → Option (ByteArray)
 | 0, _, _, _, _ => none
 | k + 1, x0, x1, x5, x6 => if x6 < x1 then (if x6 < 8 then (if x5.length < 140737488355328 then (r2_Put.l0 k (IntKind.u64.wrap (Int.tdiv x0 256)) x1 (x5 ++ [(Int.tmod x0 256) % 256]) (wrap64 (x6 + 1))) else (none)) else (some (strOfNums x5))) else (some (strOfNums x5))
def r2_Put.f (k : Nat) (a0 : Int) (a1 : Int) : Option (ByteArray) := r2_Put.l0 k a0 a1 ([] : List Int) 0
theorem r2_Put.mono_l : ∀ k, (∀ y0 y1 y2 y3, LeO (r2_Put.l0 k y0 y1 y2 y3) (r2_Put.l0 (k + 1) y0 y1 y2 y3))
 | 0 => fun _ _ _ _ r h => by simp [r2_Put.l0] at h
 | k + 1 => by
  have ih0 := r2_Put.mono_l k
  ·intro y0 y1 y2 y3
   unfold r2_Put.l0
   repeat' first
   | (with_reducible exact ih0 _ _ _ _)
   | (with_reducible exact LeO.refl _)
   | (with_reducible exact LeO.none _)
   | (with_reducible refine LeO.ite ?_ ?_)
   | (with_reducible refine LeO.bind ?_ (fun _ => ?_))
   | exact ih0 _ _ _ _
   | exact LeO.none _
   | refine LeO.ite ?_ ?_
   | refine LeO.bind ?_ (fun _ => ?_)
theorem r2_Put.mono : ∀ a0 a1 k, LeO (r2_Put.f k a0 a1) (r2_Put.f (k + 1) a0 a1) := by
 intro a0 a1 k
 have ih0 := r2_Put.mono_l k
 unfold r2_Put.f
 repeat' first
   | (with_reducible exact ih0 _ _ _ _)
   | (with_reducible exact LeO.refl _)
   | (with_reducible exact LeO.none _)
   | (with_reducible refine LeO.ite ?_ ?_)
   | (with_reducible refine LeO.bind ?_ (fun _ => ?_))
   | exact ih0 _ _ _ _
   | exact LeO.none _
   | refine LeO.ite ?_ ?_
   | refine LeO.bind ?_ (fun _ => ?_)
set_option maxHeartbeats 8000000 in
set_option maxRecDepth 100000 in
theorem r2_Put.calls (k : Nat) (a0 : Int) (a1 : Int) (r : ByteArray) (w : World) (h : r2_Put.f k a0 a1 = some r) :
  Calls Tryd.prog 49 #[.int .u64 a0, .int .i64 a1] w fun e w' => e = .returned (.string r) ∧ Below w.heap.size w w' := by
 have HB := Ax.mk (Below.refl w.heap.size w)
 have H : (r2_Put.l0 k a0 a1 ([] : List Int) 0) = some r := h
 clear h
 have H' := Ax.mk H
 clear H
 go_enter Tryd.func49, Tryd.ntmps49
 go_wp2
 go_loopg [0, 5, 6] k (fun kq v0 v5 v6 w' => ∃ (x0_1 : Int) (x5_1 : List Int) (x6_1 : Int), v0 = .int .u64 x0_1 ∧ v6 = .int .i64 x6_1 ∧ Ax (r2_Put.l0 kq x0_1 a1 x5_1 x6_1 = some r) ∧ Ax (kq ≤ k) ∧ Ax (Kd.R (Kd.int .u8) 5 w' w.heap.size (fun _ => True) v5 x5_1) ∧ Ax (Below w.heap.size w w'))
 case atStart => exact ⟨(a0), (([] : List Int)), (0), (by first | rfl | (simp; done) | (simp [*]; done)), (by first | rfl | (simp; done) | (simp [*]; done)), H', ⟨Nat.le_refl _⟩, ⟨by first | exact Kd.R_nil _ _ _ _ _ | exact Kd.N_nil _ _ _ _ _ | exact Kd.V_nil _ _ _ _ _ | exact Kd.Q_nil _ _ _ _ _ | exact Kd.S_nil _ _ _ _ _⟩, ⟨bA⟩⟩
 case round =>
  clear H'
  try clear p2
  obtain ⟨x0_1, x5_1, x6_1, rfl, rfl, HA, HK1, HO_5, HB⟩ := hrel
  cases gk with
  | zero => exact absurd HA.out (by simp [r2_Put.l0])
  | succ k1 =>
   have H := HA.out
   clear HA
   simp only [r2_Put.l0] at H
   by_cases c3 : x6_1 < a1
   ·rw [if_pos c3] at H
    have c3b0 : decide (x6_1 < a1) = true := decide_eq_true c3
    clear c3
    by_cases c4 : x6_1 < 8
    ·rw [if_pos c4] at H
     have c4b0 : decide (x6_1 < 8) = true := decide_eq_true c4
     clear c4
     by_cases c5 : x5_1.length < 140737488355328
     ·rw [if_pos c5] at H
      have LMc5 := Ax.mk c5
      clear c5
      obtain ⟨y254, hy254⟩ : ∃ y_ : List Int, y_ = (x5_1 ++ [(Int.tmod x0_1 256) % 256]) := ⟨_, rfl⟩
      replace H : (r2_Put.l0 k1 (IntKind.u64.wrap (Int.tdiv x0_1 256)) a1 y254 (wrap64 (x6_1 + 1))) = some r := by first | (rw [hy254]; with_reducible exact H) | (have H2_ := (Option.bind_some _ _).symm.trans H; rw [hy254]; with_reducible exact H2_) | (have H2_ := (Option.bind_some _ _).symm.trans H; with_reducible exact H2_) | with_reducible exact H | (rw [hy254]; exact H) | exact H
      have Ny254 := Ax.mk hy254
      clear hy254
      have H' := Ax.mk H
      clear H
      go_wp2_with (first | ((with_reducible refine gate_builtin (b := .append) (xs := #[.tmp 16, .tmp 20]) rfl ?_); at_builtin; refine Kd.R_append (Kd.int .u8) (w0 := w) w.heap.size rfl (.tmp 16) (.tmp 20) 61 5 (.int .u8 0) 1 rfl Tryd.underlying61 info5 rfl (by decide) (by omega) u5 x5_1 ((Int.tmod x0_1 256) % 256) [.int .u8 ((Int.tmod x0_1 256) % 256)] (fun _ => True) (fun _ => False) rfl rfl ?aP (fun _ hk => hk.elim) ?aF ?aO ?aB ?aS ?aL ?_; (case aP => exact rfl); (case aB => exact bA); (case aF => exact (fun _ _ => trivial)); (case aO => exact (by exact Kd.R_to HO_5.out)); (case aS => exact (bS bA)); (case aL => have := LMc5.out; omega); intro v255 w6 ho hb hg hat; rw [← Ny254.out] at ho; have n0_ := Ax.mk (hb); have n1_ := Ax.mk (ho); clear HB; clear HO_5; have HB := n0_; have HO256 := n1_; clear n0_ n1_; clear ho hb hg hat))
      go_roundg k1
      case measure => have := HK1.out; omega
      case rel => exact ⟨(IntKind.u64.wrap (Int.tdiv x0_1 256)), (y254), (wrap64 (x6_1 + 1)), (by first | rfl | (simp; done) | (simp [*]; done)), (by first | rfl | (simp; done) | (simp [*]; done)), H', ⟨by have := HK1.out; omega⟩, ⟨by apply Kd.R_to; exact HO256.out⟩, ⟨bA⟩⟩
     ·rw [if_neg c5] at H
      exact absurd H (by simp)
    ·rw [if_neg c4] at H
     have c4b0 : decide (x6_1 < 8) = false := decide_eq_false c4
     clear c4
     obtain rfl := Option.some.inj H
     have hcv7 := own_string (P := Tryd.prog) Tryd.underlying61 Tryd.underlying5 Tryd.underlying9 (Kd.own_of_R HO_5.out)
     go_wp2
     go_ret
     exact ⟨by first | rfl | (simp [errW_none, errW_some] <;> rfl) | (simp [*, errW_none, errW_some] <;> rfl), bA⟩
   ·rw [if_neg c3] at H
    have c3b0 : decide (x6_1 < a1) = false := decide_eq_false c3
    clear c3
    obtain rfl := Option.some.inj H
    have hcv8 := own_string (P := Tryd.prog) Tryd.underlying61 Tryd.underlying5 Tryd.underlying9 (Kd.own_of_R HO_5.out)
    go_wp2
    go_ret
    exact ⟨by first | rfl | (simp [errW_none, errW_some] <;> rfl) | (simp [*, errW_none, errW_some] <;> rfl), bA⟩
mutual
def r3_Sum.l0 : Nat → ByteArray → Int → Int → Option (Int)
 | 0, _, _, _ => none
 | k + 1, x0, x3, x4 => if x4 < (x0.size : Int) then (if 0 ≤ x4 then (r3_Sum.l1 k x0 x3 x4 ((bt x0 x4) % 4294967296) 0) else (none)) else (some (Go.bits .xor .u32 x3 4294967295))
def r3_Sum.l1 : Nat → ByteArray → Int → Int → Int → Int → Option (Int)
 | 0, _, _, _, _, _ => none
 | k + 1, x0, x3, x4, x5, x6 => if x6 < 8 then (if (Go.bits .and .u32 (Go.bits .xor .u32 x3 x5) 1) = 1 then (r3_Sum.l1 k x0 (Go.bits .xor .u32 ((Int.tdiv x3 2) % 4294967296) 3988292384) x4 ((Int.tdiv x5 2) % 4294967296) (wrap64 (x6 + 1))) else (r3_Sum.l1 k x0 ((Int.tdiv x3 2) % 4294967296) x4 ((Int.tdiv x5 2) % 4294967296) (wrap64 (x6 + 1)))) else (r3_Sum.l0 k x0 x3 (wrap64 (x4 + 1)))
end
def r3_Sum.f (k : Nat) (a0 : ByteArray) : Option (Int) := r3_Sum.l0 k a0 4294967295 0
theorem r3_Sum.mono_l : ∀ k, (∀ y0 y1 y2, LeO (r3_Sum.l0 k y0 y1 y2) (r3_Sum.l0 (k + 1) y0 y1 y2)) ∧ (∀ y0 y1 y2 y3 y4, LeO (r3_Sum.l1 k y0 y1 y2 y3 y4) (r3_Sum.l1 (k + 1) y0 y1 y2 y3 y4))
 | 0 => ⟨fun _ _ _ r h => by simp [r3_Sum.l0] at h, fun _ _ _ _ _ r h => by simp [r3_Sum.l1] at h⟩
 | k + 1 => by
  obtain ⟨ih0, ih1⟩ := r3_Sum.mono_l k
  refine ⟨?_, ?_⟩
  ·intro y0 y1 y2
   unfold r3_Sum.l0
   repeat' first
   | (with_reducible exact ih1 _ _ _ _ _)
   | (with_reducible exact LeO.refl _)
   | (with_reducible exact LeO.none _)
   | (with_reducible refine LeO.ite ?_ ?_)
   | (with_reducible refine LeO.bind ?_ (fun _ => ?_))
   | exact ih1 _ _ _ _ _
   | exact LeO.none _
   | refine LeO.ite ?_ ?_
   | refine LeO.bind ?_ (fun _ => ?_)
  ·intro y0 y1 y2 y3 y4
   unfold r3_Sum.l1
   repeat' first
   | (with_reducible exact ih0 _ _ _)
   | (with_reducible exact ih1 _ _ _ _ _)
   | (with_reducible exact LeO.refl _)
   | (with_reducible exact LeO.none _)
   | (with_reducible refine LeO.ite ?_ ?_)
   | (with_reducible refine LeO.bind ?_ (fun _ => ?_))
   | exact ih0 _ _ _
   | exact ih1 _ _ _ _ _
   | exact LeO.none _
   | refine LeO.ite ?_ ?_
   | refine LeO.bind ?_ (fun _ => ?_)
theorem r3_Sum.mono : ∀ a0 k, LeO (r3_Sum.f k a0) (r3_Sum.f (k + 1) a0) := by
 intro a0 k
 obtain ⟨ih0, ih1⟩ := r3_Sum.mono_l k
 unfold r3_Sum.f
 repeat' first
   | (with_reducible exact ih0 _ _ _)
   | (with_reducible exact ih1 _ _ _ _ _)
   | (with_reducible exact LeO.refl _)
   | (with_reducible exact LeO.none _)
   | (with_reducible refine LeO.ite ?_ ?_)
   | (with_reducible refine LeO.bind ?_ (fun _ => ?_))
   | exact ih0 _ _ _
   | exact ih1 _ _ _ _ _
   | exact LeO.none _
   | refine LeO.ite ?_ ?_
   | refine LeO.bind ?_ (fun _ => ?_)
set_option maxHeartbeats 8000000 in
set_option maxRecDepth 100000 in
theorem r3_Sum.calls (k : Nat) (a0 : ByteArray) (r : Int) (w : World) (h : r3_Sum.f k a0 = some r) :
  Calls Tryd.prog 67 #[.string a0] w fun e w' => e = .returned (.int .u32 r) ∧ Drawn0 w w' := by
 have H : (r3_Sum.l0 k a0 4294967295 0) = some r := h
 clear h
 have H' := Ax.mk H
 clear H
 go_enter Tryd.func67, Tryd.ntmps67
 go_wp2
 go_loopg [3, 4] k (fun kq v3 v4 w' => ∃ (x3_1 : Int) (x4_1 : Int), v3 = .int .u32 x3_1 ∧ v4 = .int .i64 x4_1 ∧ Ax (r3_Sum.l0 kq a0 x3_1 x4_1 = some r) ∧ Ax (kq ≤ k) ∧ Drawn0 w w')
 case atStart => exact ⟨(4294967295), (0), (by first | rfl | (simp; done) | (simp [*]; done)), (by first | rfl | (simp; done) | (simp [*]; done)), H', ⟨Nat.le_refl _⟩, by repeat (first | exact Drawn0.refl _ | apply Drawn0.step)⟩
 case round =>
  clear H'
  obtain ⟨x3_1, x4_1, rfl, rfl, HA, HK1, ⟨m1, rfl⟩⟩ := hrel
  cases gk with
  | zero => exact absurd HA.out (by simp [r3_Sum.l0])
  | succ k1 =>
   have H := HA.out
   clear HA
   simp only [r3_Sum.l0] at H
   by_cases c2 : x4_1 < (a0.size : Int)
   ·rw [if_pos c2] at H
    have c2b0 : decide (x4_1 < (a0.size : Int)) = true := decide_eq_true c2
    clear c2
    by_cases c3 : 0 ≤ x4_1
    ·rw [if_pos c3] at H
     have c3b0 : decide (0 ≤ x4_1) = true := decide_eq_true c3
     clear c3
     have H' := Ax.mk H
     clear H
     have p4 : 0 ≤ (x4_1 : Int) := ofD
     have q4 : x4_1 < (a0.size : Int) := ofD
     have hx4 := bt_at a0 x4_1
     replace p4 := eq_true p4
     replace q4 := eq_true q4
     go_wp2
     go_loopg [3, 5, 6] k1 (fun kq v3 v5 v6 w' => ∃ (x3_2 : Int) (x5_2 : Int) (x6_2 : Int), v3 = .int .u32 x3_2 ∧ v5 = .int .u32 x5_2 ∧ v6 = .int .i64 x6_2 ∧ Ax (r3_Sum.l1 kq a0 x3_2 x4_1 x5_2 x6_2 = some r) ∧ Ax (kq ≤ k1) ∧ Drawn0 w w')
     case atStart => exact ⟨(x3_1), ((bt a0 x4_1) % 4294967296), (0), (by first | rfl | (simp; done) | (simp [*]; done)), (by first | rfl | (simp; done) | (simp [*]; done)), (by first | rfl | (simp; done) | (simp [*]; done)), H', ⟨Nat.le_refl _⟩, by repeat (first | exact Drawn0.refl _ | apply Drawn0.step)⟩
     case round =>
      clear H'
      try clear c2
      try clear c2b0
      try clear p2
      try clear c3
      try clear c3b0
      try clear p4
      try clear q4
      try clear hx4
      try clear p4
      try clear q4
      obtain ⟨x3_2, x5_2, x6_2, rfl, rfl, rfl, HA, HK2, ⟨m2, rfl⟩⟩ := hrel
      cases gk with
      | zero => exact absurd HA.out (by simp [r3_Sum.l1])
      | succ k2 =>
       have H := HA.out
       clear HA
       simp only [r3_Sum.l1] at H
       by_cases c5 : x6_2 < 8
       ·rw [if_pos c5] at H
        have c5b0 : decide (x6_2 < 8) = true := decide_eq_true c5
        clear c5
        by_cases c6 : (Go.bits .and .u32 (Go.bits .xor .u32 x3_2 x5_2) 1) = 1
        ·rw [if_pos c6] at H
         have c6b0 : ((Go.bits .and .u32 (Go.bits .xor .u32 x3_2 x5_2) 1) == 1) = true := beq_iff_eq.mpr c6
         have c6b1 : ((Go.bits .and .u32 (Go.bits .xor .u32 x3_2 x5_2) 1) != 1) = false := bne_eq_false_iff_eq.mpr c6
         clear c6
         have H' := Ax.mk H
         clear H
         go_wp2
         go_roundg k2
         case measure => have := HK1.out; have := HK2.out; omega
         case rel => exact ⟨(Go.bits .xor .u32 ((Int.tdiv x3_2 2) % 4294967296) 3988292384), ((Int.tdiv x5_2 2) % 4294967296), (wrap64 (x6_2 + 1)), (by first | rfl | (simp; done) | (simp [*]; done)), (by first | rfl | (simp; done) | (simp [*]; done)), (by first | rfl | (simp; done) | (simp [*]; done)), H', ⟨by have := HK1.out; have := HK2.out; omega⟩, by repeat (first | exact Drawn0.refl _ | apply Drawn0.step)⟩
        ·rw [if_neg c6] at H
         have c6b0 : ((Go.bits .and .u32 (Go.bits .xor .u32 x3_2 x5_2) 1) == 1) = false := beq_eq_false_iff_ne.mpr c6
         have c6b1 : ((Go.bits .and .u32 (Go.bits .xor .u32 x3_2 x5_2) 1) != 1) = true := bne_iff_ne.mpr c6
         have H' := Ax.mk H
         clear H
         go_wp2
         go_roundg k2
         case measure => have := HK1.out; have := HK2.out; omega
         case rel => exact ⟨((Int.tdiv x3_2 2) % 4294967296), ((Int.tdiv x5_2 2) % 4294967296), (wrap64 (x6_2 + 1)), (by first | rfl | (simp; done) | (simp [*]; done)), (by first | rfl | (simp; done) | (simp [*]; done)), (by first | rfl | (simp; done) | (simp [*]; done)), H', ⟨by have := HK1.out; have := HK2.out; omega⟩, by repeat (first | exact Drawn0.refl _ | apply Drawn0.step)⟩
       ·rw [if_neg c5] at H
        have c5b0 : decide (x6_2 < 8) = false := decide_eq_false c5
        clear c5
        have H' := Ax.mk H
        clear H
        go_wp2
        go_roundg k2
        case measure => have := HK1.out; have := HK2.out; omega
        case rel => exact ⟨(x3_2), (wrap64 (x4_1 + 1)), (by first | rfl | (simp; done) | (simp [*]; done)), (by first | rfl | (simp; done) | (simp [*]; done)), H', ⟨by have := HK1.out; have := HK2.out; omega⟩, by repeat (first | exact Drawn0.refl _ | apply Drawn0.step)⟩
    ·rw [if_neg c3] at H
     exact absurd H (by simp)
   ·rw [if_neg c2] at H
    have c2b0 : decide (x4_1 < (a0.size : Int)) = false := decide_eq_false c2
    clear c2
    obtain rfl := Option.some.inj H
    go_wp2
    go_ret
    exact ⟨by first | rfl | (simp; done) | (simp [*]; done), by repeat (first | exact Drawn0.refl _ | apply Drawn0.step)⟩
def r3_Put.f (k : Nat) (a0 : ByteArray) : Option (ByteArray) := (r3_Sum.f k a0).bind fun t257 => ((r2_Put.f k (IntKind.u64.wrap (t257)) 4).bind fun t258 => (if a0.size + t258.size ≤ 9223372036854775807 then (some (a0 ++ t258)) else (none)))
theorem r3_Put.mono : ∀ a0 k, LeO (r3_Put.f k a0) (r3_Put.f (k + 1) a0) := by
 intro a0 k
 unfold r3_Put.f
 repeat' first
   | (with_reducible exact r2_Put.mono _ _ _)
   | (with_reducible exact r3_Sum.mono _ _)
   | (with_reducible exact LeO.refl _)
   | (with_reducible exact LeO.none _)
   | (with_reducible refine LeO.ite ?_ ?_)
   | (with_reducible refine LeO.bind ?_ (fun _ => ?_))
   | exact r2_Put.mono _ _ _
   | exact r3_Sum.mono _ _
   | exact LeO.none _
   | refine LeO.ite ?_ ?_
   | refine LeO.bind ?_ (fun _ => ?_)
set_option maxHeartbeats 8000000 in
set_option maxRecDepth 100000 in
theorem r3_Put.calls (k : Nat) (a0 : ByteArray) (r : ByteArray) (w : World) (h : r3_Put.f k a0 = some r) :
  Calls Tryd.prog 48 #[.string a0] w fun e w' => e = .returned (.string r) ∧ Below w.heap.size w w' := by
 have HB := Ax.mk (Below.refl w.heap.size w)
 have H : ((r3_Sum.f k a0).bind fun t257 => ((r2_Put.f k (IntKind.u64.wrap (t257)) 4).bind fun t258 => (if a0.size + t258.size ≤ 9223372036854775807 then (some (a0 ++ t258)) else (none)))) = some r := h
 clear h
 replace H := Option.bind_eq_some_iff.mp H
 obtain ⟨t257, A20, H⟩ := H
 replace H : ((r2_Put.f k (IntKind.u64.wrap (t257)) 4).bind fun t258 => (if a0.size + t258.size ≤ 9223372036854775807 then (some (a0 ++ t258)) else (none))) = some r := H
 have A2 := Ax.mk A20
 clear A20
 replace H := Option.bind_eq_some_iff.mp H
 obtain ⟨t258, A30, H⟩ := H
 replace H : (if a0.size + t258.size ≤ 9223372036854775807 then (some (a0 ++ t258)) else (none)) = some r := H
 have A3 := Ax.mk A30
 clear A30
 by_cases c4 : a0.size + t258.size ≤ 9223372036854775807
 ·rw [if_pos c4] at H
  have c4b0 := eq_true c4
  have c4b1 : decide (a0.size + t258.size ≤ 9223372036854775807) = true := decide_eq_true c4
  try have c4b2 : (9223372036854775807 < a0.size + t258.size) = False := eq_false (Nat.not_lt.2 c4)
  obtain rfl := Option.some.inj H
  go_enter Tryd.func48, Tryd.ntmps48
  go_wp2_with (first | ((with_reducible refine gate_callee (f := 67) rfl ?_); refine goesL_ (some 5) rfl rfl Tryd.func67 (by kernel_rfl) rfl #[.string a0] rfl (by (try simp only [List.map_toArray, List.map_cons, List.map_nil]); first | done | rfl | (simp only [List.length_drop, List.length_take]; rfl) | (rw [wrap_sum2 (by assumption)]; rfl)) ?_; (with_reducible refine (r3_Sum.calls k a0 t257 _ A2.out).mono ?_); rintro e w' ⟨rfl, ⟨nd, rfl⟩⟩; refine ⟨_, rfl, ?_⟩) | ((with_reducible refine gate_callee (f := 49) rfl ?_); refine goesL_ (some 7) rfl rfl Tryd.func49 (by kernel_rfl) rfl #[.int .u64 (IntKind.u64.wrap (t257)), .int .i64 4] rfl (by (try simp only [List.map_toArray, List.map_cons, List.map_nil]); first | done | rfl | (simp only [List.length_drop, List.length_take]; rfl) | (rw [wrap_sum2 (by assumption)]; rfl)) ?_; (with_reducible refine (r2_Put.calls k (IntKind.u64.wrap (t257)) 4 t258 _ A3.out).mono ?_); rintro e w5 ⟨rfl, hb⟩; refine ⟨_, rfl, ?_⟩; have n0_ := Ax.mk (bP bA hb); clear HB; have HB := n0_; clear n0_; (try clear hb); (try clear hb2); (try clear hk); (try clear hi)))
  go_ret
  exact ⟨by first | rfl | (simp [errW_none, errW_some] <;> rfl) | (simp [*, errW_none, errW_some] <;> rfl), bA⟩
 ·rw [if_neg c4] at H
  exact absurd H (by simp)
def r1_more.f (a0 : ByteArray) (a1 : Int) : Option (Bool) := if a1 < (a0.size : Int) then (if 0 ≤ a1 then (if (bt a0 a1) ≥ 128 then (some (decide ((bt a0 a1) ≤ 191))) else (some false)) else (none)) else (some false)
set_option maxHeartbeats 8000000 in
set_option maxRecDepth 100000 in
theorem r1_more.calls (a0 : ByteArray) (a1 : Int) (r : Bool) (w : World) (h : r1_more.f a0 a1 = some r) :
  Calls Tryd.prog 83 #[.string a0, .int .i64 a1] w fun e w' => e = .returned (.bool r) ∧ Drawn0 w w' := by
 have H : (if a1 < (a0.size : Int) then (if 0 ≤ a1 then (if (bt a0 a1) ≥ 128 then (some (decide ((bt a0 a1) ≤ 191))) else (some false)) else (none)) else (some false)) = some r := h
 clear h
 by_cases c3 : a1 < (a0.size : Int)
 ·rw [if_pos c3] at H
  have c3b0 : decide (a1 < (a0.size : Int)) = true := decide_eq_true c3
  clear c3
  by_cases c4 : 0 ≤ a1
  ·rw [if_pos c4] at H
   have c4b0 : decide (0 ≤ a1) = true := decide_eq_true c4
   clear c4
   by_cases c6 : (bt a0 a1) ≥ 128
   ·rw [if_pos c6] at H
    have c6b0 : decide (128 ≤ (bt a0 a1)) = true := decide_eq_true c6
    clear c6
    obtain rfl := Option.some.inj H
    have p5 : 0 ≤ (a1 : Int) := ofD
    have q5 : a1 < (a0.size : Int) := ofD
    have hx5 := bt_at a0 a1
    replace p5 := eq_true p5
    replace q5 := eq_true q5
    have p7 : 0 ≤ (a1 : Int) := ofD
    have q7 : a1 < (a0.size : Int) := ofD
    have hx7 := bt_at a0 a1
    replace p7 := eq_true p7
    replace q7 := eq_true q7
    go_enter Tryd.func83, Tryd.ntmps83
    go_wp2
    go_ret
    exact ⟨by first | rfl | (simp; done) | (simp [*]; done), by repeat (first | exact Drawn0.refl _ | apply Drawn0.step)⟩
   ·rw [if_neg c6] at H
    have c6b0 : decide (128 ≤ (bt a0 a1)) = false := decide_eq_false c6
    clear c6
    obtain rfl := Option.some.inj H
    have p5 : 0 ≤ (a1 : Int) := ofD
    have q5 : a1 < (a0.size : Int) := ofD
    have hx5 := bt_at a0 a1
    replace p5 := eq_true p5
    replace q5 := eq_true q5
    go_enter Tryd.func83, Tryd.ntmps83
    go_wp2
    go_ret
    exact ⟨by first | rfl | (simp; done) | (simp [*]; done), by repeat (first | exact Drawn0.refl _ | apply Drawn0.step)⟩
  ·rw [if_neg c4] at H
   exact absurd H (by simp)
 ·rw [if_neg c3] at H
  have c3b0 : decide (a1 < (a0.size : Int)) = false := decide_eq_false c3
  clear c3
  obtain rfl := Option.some.inj H
  go_enter Tryd.func83, Tryd.ntmps83
  go_wp2
  go_ret
  exact ⟨by first | rfl | (simp; done) | (simp [*]; done), by repeat (first | exact Drawn0.refl _ | apply Drawn0.step)⟩
mutual
def r1_Rune.j0 : Nat → ByteArray → Int → Bool → Option (Int × Int)
 | 0, _, _, _ => none
 | k + 1, x0, x4, x22 => if x22 = true then (if 1 < (x0.size : Int) then (some (wrap64 ((wrap64 ((wrap64 ((wrap64 (x4 - 192)) * 64)) + (wrap64 (bt x0 1)))) - 128), 2)) else (none)) else (if x4 ≥ 224 then (if x4 ≤ 239 then ((r1_more.f x0 1).bind fun t241 => (if t241 = true then ((r1_more.f x0 2).bind fun t242 => (r1_Rune.j1 k x0 x4 t242)) else (r1_Rune.j1 k x0 x4 false))) else (r1_Rune.j1 k x0 x4 false)) else (r1_Rune.j1 k x0 x4 false))
def r1_Rune.j1 : Nat → ByteArray → Int → Bool → Option (Int × Int)
 | 0, _, _, _ => none
 | k + 1, x0, x4, x44 => if x44 = true then (if 1 < (x0.size : Int) then (if 2 < (x0.size : Int) then (if (wrap64 ((wrap64 ((wrap64 ((wrap64 ((wrap64 (x4 - 224)) * 4096)) + (wrap64 ((wrap64 ((wrap64 (bt x0 1)) - 128)) * 64)))) + (wrap64 (bt x0 2)))) - 128)) ≥ 2048 then (if (wrap64 ((wrap64 ((wrap64 ((wrap64 ((wrap64 (x4 - 224)) * 4096)) + (wrap64 ((wrap64 ((wrap64 (bt x0 1)) - 128)) * 64)))) + (wrap64 (bt x0 2)))) - 128)) ≥ 55296 then (if ((wrap64 ((wrap64 ((wrap64 ((wrap64 ((wrap64 (x4 - 224)) * 4096)) + (wrap64 ((wrap64 ((wrap64 (bt x0 1)) - 128)) * 64)))) + (wrap64 (bt x0 2)))) - 128)) ≤ 57343) then (r1_Rune.j2 k x0 x4) else (some (wrap64 ((wrap64 ((wrap64 ((wrap64 ((wrap64 (x4 - 224)) * 4096)) + (wrap64 ((wrap64 ((wrap64 (bt x0 1)) - 128)) * 64)))) + (wrap64 (bt x0 2)))) - 128), 3))) else (some (wrap64 ((wrap64 ((wrap64 ((wrap64 ((wrap64 (x4 - 224)) * 4096)) + (wrap64 ((wrap64 ((wrap64 (bt x0 1)) - 128)) * 64)))) + (wrap64 (bt x0 2)))) - 128), 3))) else (r1_Rune.j2 k x0 x4)) else (none)) else (none)) else (r1_Rune.j2 k x0 x4)
def r1_Rune.j2 : Nat → ByteArray → Int → Option (Int × Int)
 | 0, _, _ => none
 | k + 1, x0, x4 => if x4 ≥ 240 then (if x4 ≤ 244 then ((r1_more.f x0 1).bind fun t243 => (if t243 = true then ((r1_more.f x0 2).bind fun t244 => (if t244 = true then ((r1_more.f x0 3).bind fun t245 => (r1_Rune.j3 k x0 x4 t245)) else (r1_Rune.j3 k x0 x4 false))) else (r1_Rune.j3 k x0 x4 false))) else (r1_Rune.j3 k x0 x4 false)) else (r1_Rune.j3 k x0 x4 false)
def r1_Rune.j3 : Nat → ByteArray → Int → Bool → Option (Int × Int)
 | 0, _, _, _ => none
 | k + 1, x0, x4, x88 => if x88 = true then (if 1 < (x0.size : Int) then (if 2 < (x0.size : Int) then (if 3 < (x0.size : Int) then (if (wrap64 ((wrap64 ((wrap64 ((wrap64 ((wrap64 ((wrap64 (x4 - 240)) * 262144)) + (wrap64 ((wrap64 ((wrap64 (bt x0 1)) - 128)) * 4096)))) + (wrap64 ((wrap64 ((wrap64 (bt x0 2)) - 128)) * 64)))) + (wrap64 (bt x0 3)))) - 128)) ≥ 65536 then (if (wrap64 ((wrap64 ((wrap64 ((wrap64 ((wrap64 ((wrap64 (x4 - 240)) * 262144)) + (wrap64 ((wrap64 ((wrap64 (bt x0 1)) - 128)) * 4096)))) + (wrap64 ((wrap64 ((wrap64 (bt x0 2)) - 128)) * 64)))) + (wrap64 (bt x0 3)))) - 128)) ≤ 1114111 then (some (wrap64 ((wrap64 ((wrap64 ((wrap64 ((wrap64 ((wrap64 (x4 - 240)) * 262144)) + (wrap64 ((wrap64 ((wrap64 (bt x0 1)) - 128)) * 4096)))) + (wrap64 ((wrap64 ((wrap64 (bt x0 2)) - 128)) * 64)))) + (wrap64 (bt x0 3)))) - 128), 4)) else (some ((-1), 1))) else (some ((-1), 1))) else (none)) else (none)) else (none)) else (some ((-1), 1))
end
def r1_Rune.f (k : Nat) (a0 : ByteArray) : Option (Int × Int) := if 0 < (a0.size : Int) then (if (wrap64 (bt a0 0)) < 128 then (some (wrap64 (bt a0 0), 1)) else (if (wrap64 (bt a0 0)) ≥ 194 then (if (wrap64 (bt a0 0)) ≤ 223 then ((r1_more.f a0 1).bind fun t240 => (r1_Rune.j0 k a0 (wrap64 (bt a0 0)) t240)) else (r1_Rune.j0 k a0 (wrap64 (bt a0 0)) false)) else (r1_Rune.j0 k a0 (wrap64 (bt a0 0)) false))) else (none)
theorem r1_Rune.mono_l : ∀ k, (∀ y0 y1 y2, LeO (r1_Rune.j0 k y0 y1 y2) (r1_Rune.j0 (k + 1) y0 y1 y2)) ∧ (∀ y0 y1 y2, LeO (r1_Rune.j1 k y0 y1 y2) (r1_Rune.j1 (k + 1) y0 y1 y2)) ∧ (∀ y0 y1, LeO (r1_Rune.j2 k y0 y1) (r1_Rune.j2 (k + 1) y0 y1)) ∧ (∀ y0 y1 y2, LeO (r1_Rune.j3 k y0 y1 y2) (r1_Rune.j3 (k + 1) y0 y1 y2))
 | 0 => ⟨fun _ _ _ r h => by simp [r1_Rune.j0] at h, fun _ _ _ r h => by simp [r1_Rune.j1] at h, fun _ _ r h => by simp [r1_Rune.j2] at h, fun _ _ _ r h => by simp [r1_Rune.j3] at h⟩
 | k + 1 => by
  obtain ⟨ih0, ih1, ih2, ih3⟩ := r1_Rune.mono_l k
  refine ⟨?_, ?_, ?_, ?_⟩
  ·intro y0 y1 y2
   unfold r1_Rune.j0
   repeat' first
   | (with_reducible exact ih1 _ _ _)
   | (with_reducible exact LeO.refl _)
   | (with_reducible exact LeO.none _)
   | (with_reducible refine LeO.ite ?_ ?_)
   | (with_reducible refine LeO.bind ?_ (fun _ => ?_))
   | exact ih1 _ _ _
   | exact LeO.none _
   | refine LeO.ite ?_ ?_
   | refine LeO.bind ?_ (fun _ => ?_)
  ·intro y0 y1 y2
   unfold r1_Rune.j1
   repeat' first
   | (with_reducible exact ih2 _ _)
   | (with_reducible exact LeO.refl _)
   | (with_reducible exact LeO.none _)
   | (with_reducible refine LeO.ite ?_ ?_)
   | (with_reducible refine LeO.bind ?_ (fun _ => ?_))
   | exact ih2 _ _
   | exact LeO.none _
   | refine LeO.ite ?_ ?_
   | refine LeO.bind ?_ (fun _ => ?_)
  ·intro y0 y1
   unfold r1_Rune.j2
   repeat' first
   | (with_reducible exact ih3 _ _ _)
   | (with_reducible exact LeO.refl _)
   | (with_reducible exact LeO.none _)
   | (with_reducible refine LeO.ite ?_ ?_)
   | (with_reducible refine LeO.bind ?_ (fun _ => ?_))
   | exact ih3 _ _ _
   | exact LeO.none _
   | refine LeO.ite ?_ ?_
   | refine LeO.bind ?_ (fun _ => ?_)
  ·intro y0 y1 y2
   unfold r1_Rune.j3
   repeat' first
   | (with_reducible exact LeO.refl _)
   | (with_reducible exact LeO.none _)
   | (with_reducible refine LeO.ite ?_ ?_)
   | (with_reducible refine LeO.bind ?_ (fun _ => ?_))
   | exact LeO.none _
   | refine LeO.ite ?_ ?_
   | refine LeO.bind ?_ (fun _ => ?_)
theorem r1_Rune.mono : ∀ a0 k, LeO (r1_Rune.f k a0) (r1_Rune.f (k + 1) a0) := by
 intro a0 k
 obtain ⟨ih0, ih1, ih2, ih3⟩ := r1_Rune.mono_l k
 unfold r1_Rune.f
 repeat' first
   | (with_reducible exact ih0 _ _ _)
   | (with_reducible exact ih1 _ _ _)
   | (with_reducible exact ih2 _ _)
   | (with_reducible exact ih3 _ _ _)
   | (with_reducible exact LeO.refl _)
   | (with_reducible exact LeO.none _)
   | (with_reducible refine LeO.ite ?_ ?_)
   | (with_reducible refine LeO.bind ?_ (fun _ => ?_))
   | exact ih0 _ _ _
   | exact ih1 _ _ _
   | exact ih2 _ _
   | exact ih3 _ _ _
   | exact LeO.none _
   | refine LeO.ite ?_ ?_
   | refine LeO.bind ?_ (fun _ => ?_)
set_option maxHeartbeats 8000000 in
set_option maxRecDepth 100000 in
theorem r1_Rune.calls (k : Nat) (a0 : ByteArray) (r1 : Int) (r2 : Int) (w : World) (h : r1_Rune.f k a0 = some (r1, r2)) :
  Calls Tryd.prog 78 #[.string a0] w fun e w' => e = .returned (.tuple #[.int .i64 r1, .int .i64 r2]) ∧ Drawn0 w w' := by
 have H : (if 0 < (a0.size : Int) then (if (wrap64 (bt a0 0)) < 128 then (some (wrap64 (bt a0 0), 1)) else (if (wrap64 (bt a0 0)) ≥ 194 then (if (wrap64 (bt a0 0)) ≤ 223 then ((r1_more.f a0 1).bind fun t240 => (r1_Rune.j0 k a0 (wrap64 (bt a0 0)) t240)) else (r1_Rune.j0 k a0 (wrap64 (bt a0 0)) false)) else (r1_Rune.j0 k a0 (wrap64 (bt a0 0)) false))) else (none)) = some (r1, r2) := h
 clear h
 by_cases c2 : 0 < (a0.size : Int)
 ·rw [if_pos c2] at H
  have c2b0 : decide (0 < (a0.size : Int)) = true := decide_eq_true c2
  have c2b1 : decide (0 < a0.size) = true := decide_eq_true (by omega)
  clear c2
  by_cases c4 : (wrap64 (bt a0 0)) < 128
  ·rw [if_pos c4] at H
   have c4b0 : decide ((wrap64 (bt a0 0)) < 128) = true := decide_eq_true c4
   clear c4
   simp only [Option.some.injEq, Prod.mk.injEq] at H
   obtain ⟨rfl, rfl⟩ := H
   have p3 : 0 ≤ (0 : Int) := (by omega)
   have q3 : 0 < a0.size := (by have : (0 : Int) < (a0.size : Int) := ofD; omega)
   have hx3 : ∀ h : 0 < a0.size, ((a0[0]'h).toNat : Int) = bt a0 0 := bt_at a0 0
   clear p3
   have qi3 : (0 < (a0.size : Int)) = True := eq_true (ofD)
   replace q3 := eq_true q3
   go_enter Tryd.func78, Tryd.ntmps78
   go_wp2
   repeat (go_quiet (fail); try go_wp2)
   go_ret2
   exact ⟨by first | rfl | (simp; done) | (simp [*]; done), by repeat (first | exact Drawn0.refl _ | apply Drawn0.step)⟩
  ·rw [if_neg c4] at H
   have c4b0 : decide ((wrap64 (bt a0 0)) < 128) = false := decide_eq_false c4
   clear c4
   have HC5 := Ax.mk H
   clear H
   have p3 : 0 ≤ (0 : Int) := (by omega)
   have q3 : 0 < a0.size := (by have : (0 : Int) < (a0.size : Int) := ofD; omega)
   have hx3 : ∀ h : 0 < a0.size, ((a0[0]'h).toNat : Int) = bt a0 0 := bt_at a0 0
   clear p3
   have qi3 : (0 < (a0.size : Int)) = True := eq_true (ofD)
   replace q3 := eq_true q3
   go_enter Tryd.func78, Tryd.ntmps78
   go_upto_region 4 with (fail)
   repeat (go_quiet (fail); go_upto_region 4 with (fail))
   go_cut [22] (fun v22 wc => ∃ (kq : Nat) (x22_4 : Bool), v22 = .bool x22_4 ∧ Ax (r1_Rune.j0 kq a0 (wrap64 (bt a0 0)) x22_4 = some (r1, r2)) ∧ Ax (kq ≤ k) ∧ Drawn0 w wc)
   case first =>
    have H := HC5.out
    clear HC5
    by_cases c6 : (wrap64 (bt a0 0)) ≥ 194
    ·rw [if_pos c6] at H
     have c6b0 : decide (194 ≤ (wrap64 (bt a0 0))) = true := decide_eq_true c6
     clear c6
     (first | rw [c6b0] | (simp only [i64_w, i32_w]; rw [c6b0]) | skip)
     by_cases c7 : (wrap64 (bt a0 0)) ≤ 223
     ·rw [if_pos c7] at H
      have c7b0 : decide ((wrap64 (bt a0 0)) ≤ 223) = true := decide_eq_true c7
      clear c7
      replace H := Option.bind_eq_some_iff.mp H
      obtain ⟨t240, A80, H⟩ := H
      replace H : (r1_Rune.j0 k a0 (wrap64 (bt a0 0)) t240) = some (r1, r2) := H
      have A8 := Ax.mk A80
      clear A80
      have H' := Ax.mk H
      clear H
      go_wp2_with (first | (go_at_call 83; (with_reducible refine (r1_more.calls a0 1 t240 _ A8.out).mono ?_); rintro e w' ⟨rfl, ⟨nd, rfl⟩⟩; (try first | exact ⟨rfl, _, World.drewN_drewN _ _ _⟩ | exact ⟨rfl, _, Eq.trans (World.drewN_drewN _ _ _) (congrArg (World.drewN _) (Nat.add_assoc _ _ _))⟩)))
      repeat (go_quiet (first | (go_at_call 83; (with_reducible refine (r1_more.calls a0 1 t240 _ A8.out).mono ?_); rintro e w' ⟨rfl, ⟨nd, rfl⟩⟩; (try first | exact ⟨rfl, _, World.drewN_drewN _ _ _⟩ | exact ⟨rfl, _, Eq.trans (World.drewN_drewN _ _ _) (congrArg (World.drewN _) (Nat.add_assoc _ _ _))⟩))); try go_wp2_with (first | (go_at_call 83; (with_reducible refine (r1_more.calls a0 1 t240 _ A8.out).mono ?_); rintro e w' ⟨rfl, ⟨nd, rfl⟩⟩; (try first | exact ⟨rfl, _, World.drewN_drewN _ _ _⟩ | exact ⟨rfl, _, Eq.trans (World.drewN_drewN _ _ _) (congrArg (World.drewN _) (Nat.add_assoc _ _ _))⟩))))
      go_meet
      case rel => exact ⟨_, (t240), (by first | rfl | (simp; done) | (simp [*]; done)), H', ⟨by first | omega | exact Nat.le_refl _⟩, by repeat (first | exact Drawn0.refl _ | apply Drawn0.step)⟩
     ·rw [if_neg c7] at H
      have c7b0 : decide ((wrap64 (bt a0 0)) ≤ 223) = false := decide_eq_false c7
      clear c7
      have H' := Ax.mk H
      clear H
      go_wp2
      repeat (go_quiet (fail); try go_wp2)
      go_meet
      case rel => exact ⟨_, (false), (by first | rfl | (simp; done) | (simp [*]; done)), H', ⟨by first | omega | exact Nat.le_refl _⟩, by repeat (first | exact Drawn0.refl _ | apply Drawn0.step)⟩
    ·rw [if_neg c6] at H
     have c6b0 : decide (194 ≤ (wrap64 (bt a0 0))) = false := decide_eq_false c6
     clear c6
     (first | rw [c6b0] | (simp only [i64_w, i32_w]; rw [c6b0]) | skip)
     have H' := Ax.mk H
     clear H
     go_wp2
     repeat (go_quiet (fail); try go_wp2)
     go_meet
     case rel => exact ⟨_, (false), (by first | rfl | (simp; done) | (simp [*]; done)), H', ⟨by first | omega | exact Nat.le_refl _⟩, by repeat (first | exact Drawn0.refl _ | apply Drawn0.step)⟩
   case rest =>
    clear HC5
    try clear c2
    try clear c2b0
    try clear c2b1
    try clear p2
    try clear p3
    try clear q3
    try clear hx3
    try clear qi3
    try clear c4
    try clear c4b0
    try clear c6
    try clear c6b0
    try clear p6
    try clear c7
    try clear c7b0
    try clear p3
    try clear q3
    obtain ⟨kq, x22_4, rfl, HA, HJ4, ⟨mc4, rfl⟩⟩ := hcut
    cases kq with
    | zero => exact absurd HA.out (by simp [r1_Rune.j0])
    | succ kj4 =>
     have H := HA.out
     clear HA
     simp only [r1_Rune.j0] at H
     by_cases c9 : x22_4 = true
     ·subst c9
      have H1 : (if 1 < (a0.size : Int) then (some (wrap64 ((wrap64 ((wrap64 ((wrap64 ((wrap64 (bt a0 0)) - 192)) * 64)) + (wrap64 (bt a0 1)))) - 128), 2)) else (none)) = some (r1, r2) := by rw [if_pos rfl] at H; exact H
      clear H
      have H := H1
      clear H1
      by_cases c10 : 1 < (a0.size : Int)
      ·rw [if_pos c10] at H
       have c10b0 : decide (1 < (a0.size : Int)) = true := decide_eq_true c10
       have c10b1 : decide (1 < a0.size) = true := decide_eq_true (by omega)
       clear c10
       simp only [Option.some.injEq, Prod.mk.injEq] at H
       obtain ⟨rfl, rfl⟩ := H
       have p11 : 0 ≤ (1 : Int) := (by omega)
       have q11 : 1 < a0.size := (by have : (1 : Int) < (a0.size : Int) := ofD; omega)
       have hx11 : ∀ h : 1 < a0.size, ((a0[1]'h).toNat : Int) = bt a0 1 := bt_at a0 1
       clear p11
       have qi11 : (1 < (a0.size : Int)) = True := eq_true (ofD)
       replace q11 := eq_true q11
       go_wp2
       repeat (go_quiet (fail); try go_wp2)
       go_ret2
       exact ⟨by first | rfl | (simp; done) | (simp [*]; done), by repeat (first | exact Drawn0.refl _ | apply Drawn0.step)⟩
      ·rw [if_neg c10] at H
       exact absurd H (by simp)
     ·replace c9 := Bool.eq_false_iff.mpr c9
      subst c9
      have H1 : (if (wrap64 (bt a0 0)) ≥ 224 then (if (wrap64 (bt a0 0)) ≤ 239 then ((r1_more.f a0 1).bind fun t241 => (if t241 = true then ((r1_more.f a0 2).bind fun t242 => (r1_Rune.j1 kj4 a0 (wrap64 (bt a0 0)) t242)) else (r1_Rune.j1 kj4 a0 (wrap64 (bt a0 0)) false))) else (r1_Rune.j1 kj4 a0 (wrap64 (bt a0 0)) false)) else (r1_Rune.j1 kj4 a0 (wrap64 (bt a0 0)) false)) = some (r1, r2) := by rw [if_neg (show ¬ (false = true) by decide)] at H; exact H
      clear H
      have H := H1
      clear H1
      have HC12 := Ax.mk H
      clear H
      go_upto_region 6 with (fail)
      repeat (go_quiet (fail); go_upto_region 6 with (fail))
      go_cut [44] (fun v44 wc => ∃ (kq : Nat) (x44_11 : Bool), v44 = .bool x44_11 ∧ Ax (r1_Rune.j1 kq a0 (wrap64 (bt a0 0)) x44_11 = some (r1, r2)) ∧ Ax (kq ≤ kj4) ∧ Drawn0 w wc)
      case first =>
       have H := HC12.out
       clear HC12
       by_cases c13 : (wrap64 (bt a0 0)) ≥ 224
       ·rw [if_pos c13] at H
        have c13b0 : decide (224 ≤ (wrap64 (bt a0 0))) = true := decide_eq_true c13
        clear c13
        (first | rw [c13b0] | (simp only [i64_w, i32_w]; rw [c13b0]) | skip)
        by_cases c14 : (wrap64 (bt a0 0)) ≤ 239
        ·rw [if_pos c14] at H
         have c14b0 : decide ((wrap64 (bt a0 0)) ≤ 239) = true := decide_eq_true c14
         clear c14
         replace H := Option.bind_eq_some_iff.mp H
         obtain ⟨t241, A150, H⟩ := H
         replace H : (if t241 = true then ((r1_more.f a0 2).bind fun t242 => (r1_Rune.j1 kj4 a0 (wrap64 (bt a0 0)) t242)) else (r1_Rune.j1 kj4 a0 (wrap64 (bt a0 0)) false)) = some (r1, r2) := H
         have A15 := Ax.mk A150
         clear A150
         by_cases c16 : t241 = true
         ·subst c16
          have H1 : ((r1_more.f a0 2).bind fun t242 => (r1_Rune.j1 kj4 a0 (wrap64 (bt a0 0)) t242)) = some (r1, r2) := by rw [if_pos rfl] at H; exact H
          clear H
          have H := H1
          clear H1
          replace H := Option.bind_eq_some_iff.mp H
          obtain ⟨t242, A170, H⟩ := H
          replace H : (r1_Rune.j1 kj4 a0 (wrap64 (bt a0 0)) t242) = some (r1, r2) := H
          have A17 := Ax.mk A170
          clear A170
          have H' := Ax.mk H
          clear H
          go_wp2_with (first | (go_at_call 83; (with_reducible refine (r1_more.calls a0 1 true _ A15.out).mono ?_); rintro e w' ⟨rfl, ⟨nd, rfl⟩⟩; (try first | exact ⟨rfl, _, World.drewN_drewN _ _ _⟩ | exact ⟨rfl, _, Eq.trans (World.drewN_drewN _ _ _) (congrArg (World.drewN _) (Nat.add_assoc _ _ _))⟩)) | (go_at_call 83; (with_reducible refine (r1_more.calls a0 2 t242 _ A17.out).mono ?_); rintro e w' ⟨rfl, ⟨nd, rfl⟩⟩; (try first | exact ⟨rfl, _, World.drewN_drewN _ _ _⟩ | exact ⟨rfl, _, Eq.trans (World.drewN_drewN _ _ _) (congrArg (World.drewN _) (Nat.add_assoc _ _ _))⟩)))
          repeat (go_quiet (first | (go_at_call 83; (with_reducible refine (r1_more.calls a0 1 true _ A15.out).mono ?_); rintro e w' ⟨rfl, ⟨nd, rfl⟩⟩; (try first | exact ⟨rfl, _, World.drewN_drewN _ _ _⟩ | exact ⟨rfl, _, Eq.trans (World.drewN_drewN _ _ _) (congrArg (World.drewN _) (Nat.add_assoc _ _ _))⟩)) | (go_at_call 83; (with_reducible refine (r1_more.calls a0 2 t242 _ A17.out).mono ?_); rintro e w' ⟨rfl, ⟨nd, rfl⟩⟩; (try first | exact ⟨rfl, _, World.drewN_drewN _ _ _⟩ | exact ⟨rfl, _, Eq.trans (World.drewN_drewN _ _ _) (congrArg (World.drewN _) (Nat.add_assoc _ _ _))⟩))); try go_wp2_with (first | (go_at_call 83; (with_reducible refine (r1_more.calls a0 1 true _ A15.out).mono ?_); rintro e w' ⟨rfl, ⟨nd, rfl⟩⟩; (try first | exact ⟨rfl, _, World.drewN_drewN _ _ _⟩ | exact ⟨rfl, _, Eq.trans (World.drewN_drewN _ _ _) (congrArg (World.drewN _) (Nat.add_assoc _ _ _))⟩)) | (go_at_call 83; (with_reducible refine (r1_more.calls a0 2 t242 _ A17.out).mono ?_); rintro e w' ⟨rfl, ⟨nd, rfl⟩⟩; (try first | exact ⟨rfl, _, World.drewN_drewN _ _ _⟩ | exact ⟨rfl, _, Eq.trans (World.drewN_drewN _ _ _) (congrArg (World.drewN _) (Nat.add_assoc _ _ _))⟩))))
          go_meet
          case rel => exact ⟨_, (t242), (by first | rfl | (simp; done) | (simp [*]; done)), H', ⟨by have := HJ4.out; first | omega | exact Nat.le_refl _⟩, by repeat (first | exact Drawn0.refl _ | apply Drawn0.step)⟩
         ·replace c16 := Bool.eq_false_iff.mpr c16
          subst c16
          have H1 : (r1_Rune.j1 kj4 a0 (wrap64 (bt a0 0)) false) = some (r1, r2) := by rw [if_neg (show ¬ (false = true) by decide)] at H; exact H
          clear H
          have H := H1
          clear H1
          have H' := Ax.mk H
          clear H
          go_wp2_with (first | (go_at_call 83; (with_reducible refine (r1_more.calls a0 1 false _ A15.out).mono ?_); rintro e w' ⟨rfl, ⟨nd, rfl⟩⟩; (try first | exact ⟨rfl, _, World.drewN_drewN _ _ _⟩ | exact ⟨rfl, _, Eq.trans (World.drewN_drewN _ _ _) (congrArg (World.drewN _) (Nat.add_assoc _ _ _))⟩)))
          repeat (go_quiet (first | (go_at_call 83; (with_reducible refine (r1_more.calls a0 1 false _ A15.out).mono ?_); rintro e w' ⟨rfl, ⟨nd, rfl⟩⟩; (try first | exact ⟨rfl, _, World.drewN_drewN _ _ _⟩ | exact ⟨rfl, _, Eq.trans (World.drewN_drewN _ _ _) (congrArg (World.drewN _) (Nat.add_assoc _ _ _))⟩))); try go_wp2_with (first | (go_at_call 83; (with_reducible refine (r1_more.calls a0 1 false _ A15.out).mono ?_); rintro e w' ⟨rfl, ⟨nd, rfl⟩⟩; (try first | exact ⟨rfl, _, World.drewN_drewN _ _ _⟩ | exact ⟨rfl, _, Eq.trans (World.drewN_drewN _ _ _) (congrArg (World.drewN _) (Nat.add_assoc _ _ _))⟩))))
          go_meet
          case rel => exact ⟨_, (false), (by first | rfl | (simp; done) | (simp [*]; done)), H', ⟨by have := HJ4.out; first | omega | exact Nat.le_refl _⟩, by repeat (first | exact Drawn0.refl _ | apply Drawn0.step)⟩
        ·rw [if_neg c14] at H
         have c14b0 : decide ((wrap64 (bt a0 0)) ≤ 239) = false := decide_eq_false c14
         clear c14
         have H' := Ax.mk H
         clear H
         go_wp2
         repeat (go_quiet (fail); try go_wp2)
         go_meet
         case rel => exact ⟨_, (false), (by first | rfl | (simp; done) | (simp [*]; done)), H', ⟨by have := HJ4.out; first | omega | exact Nat.le_refl _⟩, by repeat (first | exact Drawn0.refl _ | apply Drawn0.step)⟩
       ·rw [if_neg c13] at H
        have c13b0 : decide (224 ≤ (wrap64 (bt a0 0))) = false := decide_eq_false c13
        clear c13
        (first | rw [c13b0] | (simp only [i64_w, i32_w]; rw [c13b0]) | skip)
        have H' := Ax.mk H
        clear H
        go_wp2
        repeat (go_quiet (fail); try go_wp2)
        go_meet
        case rel => exact ⟨_, (false), (by first | rfl | (simp; done) | (simp [*]; done)), H', ⟨by have := HJ4.out; first | omega | exact Nat.le_refl _⟩, by repeat (first | exact Drawn0.refl _ | apply Drawn0.step)⟩
      case rest =>
       clear HC12
       try clear c1
       try clear p1
       try clear q1
       try clear hx1
       try clear qi1
       try clear c2
       try clear c2b0
       try clear c2b1
       try clear p2
       try clear p3
       try clear q3
       try clear hx3
       try clear qi3
       try clear c4
       try clear c4b0
       try clear c6
       try clear c6b0
       try clear p6
       try clear c7
       try clear c7b0
       try clear c9
       try clear c10
       try clear c10b0
       try clear c10b1
       try clear p11
       try clear q11
       try clear hx11
       try clear qi11
       try clear c13
       try clear c13b0
       try clear c14
       try clear c14b0
       try clear c16
       try clear p11
       try clear p2
       try clear p3
       try clear p6
       try clear q11
       try clear q3
       obtain ⟨kq, x44_11, rfl, HA, HJ11, ⟨mc11, rfl⟩⟩ := hcut
       cases kq with
       | zero => exact absurd HA.out (by simp [r1_Rune.j1])
       | succ kj11 =>
        have H := HA.out
        clear HA
        simp only [r1_Rune.j1] at H
        have HC18 := Ax.mk H
        clear H
        go_upto_if 44 with (fail)
        repeat (go_quiet (fail); go_upto_if 44 with (fail))
        go_cut [] (fun wc => ∃ (kq : Nat), Ax (r1_Rune.j2 kq a0 (wrap64 (bt a0 0)) = some (r1, r2)) ∧ Ax (kq ≤ kj11) ∧ Drawn0 w wc)
        case first =>
         have H := HC18.out
         clear HC18
         by_cases c19 : x44_11 = true
         ·subst c19
          have H1 : (if 1 < (a0.size : Int) then (if 2 < (a0.size : Int) then (if (wrap64 ((wrap64 ((wrap64 ((wrap64 ((wrap64 ((wrap64 (bt a0 0)) - 224)) * 4096)) + (wrap64 ((wrap64 ((wrap64 (bt a0 1)) - 128)) * 64)))) + (wrap64 (bt a0 2)))) - 128)) ≥ 2048 then (if (wrap64 ((wrap64 ((wrap64 ((wrap64 ((wrap64 ((wrap64 (bt a0 0)) - 224)) * 4096)) + (wrap64 ((wrap64 ((wrap64 (bt a0 1)) - 128)) * 64)))) + (wrap64 (bt a0 2)))) - 128)) ≥ 55296 then (if ((wrap64 ((wrap64 ((wrap64 ((wrap64 ((wrap64 ((wrap64 (bt a0 0)) - 224)) * 4096)) + (wrap64 ((wrap64 ((wrap64 (bt a0 1)) - 128)) * 64)))) + (wrap64 (bt a0 2)))) - 128)) ≤ 57343) then (r1_Rune.j2 kj11 a0 (wrap64 (bt a0 0))) else (some (wrap64 ((wrap64 ((wrap64 ((wrap64 ((wrap64 ((wrap64 (bt a0 0)) - 224)) * 4096)) + (wrap64 ((wrap64 ((wrap64 (bt a0 1)) - 128)) * 64)))) + (wrap64 (bt a0 2)))) - 128), 3))) else (some (wrap64 ((wrap64 ((wrap64 ((wrap64 ((wrap64 ((wrap64 (bt a0 0)) - 224)) * 4096)) + (wrap64 ((wrap64 ((wrap64 (bt a0 1)) - 128)) * 64)))) + (wrap64 (bt a0 2)))) - 128), 3))) else (r1_Rune.j2 kj11 a0 (wrap64 (bt a0 0)))) else (none)) else (none)) = some (r1, r2) := by rw [if_pos rfl] at H; exact H
          clear H
          have H := H1
          clear H1
          by_cases c20 : 1 < (a0.size : Int)
          ·rw [if_pos c20] at H
           have c20b0 : decide (1 < (a0.size : Int)) = true := decide_eq_true c20
           have c20b1 : decide (1 < a0.size) = true := decide_eq_true (by omega)
           clear c20
           (first | rw [c20b0] | (simp only [i64_w, i32_w]; rw [c20b0]) | skip)
           by_cases c22 : 2 < (a0.size : Int)
           ·rw [if_pos c22] at H
            have c22b0 : decide (2 < (a0.size : Int)) = true := decide_eq_true c22
            have c22b1 : decide (2 < a0.size) = true := decide_eq_true (by omega)
            clear c22
            by_cases c24 : (wrap64 ((wrap64 ((wrap64 ((wrap64 ((wrap64 ((wrap64 (bt a0 0)) - 224)) * 4096)) + (wrap64 ((wrap64 ((wrap64 (bt a0 1)) - 128)) * 64)))) + (wrap64 (bt a0 2)))) - 128)) ≥ 2048
            ·rw [if_pos c24] at H
             have c24b0 : decide (2048 ≤ (wrap64 ((wrap64 ((wrap64 ((wrap64 ((wrap64 ((wrap64 (bt a0 0)) - 224)) * 4096)) + (wrap64 ((wrap64 ((wrap64 (bt a0 1)) - 128)) * 64)))) + (wrap64 (bt a0 2)))) - 128))) = true := decide_eq_true c24
             clear c24
             by_cases c25 : (wrap64 ((wrap64 ((wrap64 ((wrap64 ((wrap64 ((wrap64 (bt a0 0)) - 224)) * 4096)) + (wrap64 ((wrap64 ((wrap64 (bt a0 1)) - 128)) * 64)))) + (wrap64 (bt a0 2)))) - 128)) ≥ 55296
             ·rw [if_pos c25] at H
              have c25b0 : decide (55296 ≤ (wrap64 ((wrap64 ((wrap64 ((wrap64 ((wrap64 ((wrap64 (bt a0 0)) - 224)) * 4096)) + (wrap64 ((wrap64 ((wrap64 (bt a0 1)) - 128)) * 64)))) + (wrap64 (bt a0 2)))) - 128))) = true := decide_eq_true c25
              clear c25
              by_cases c26 : ((wrap64 ((wrap64 ((wrap64 ((wrap64 ((wrap64 ((wrap64 (bt a0 0)) - 224)) * 4096)) + (wrap64 ((wrap64 ((wrap64 (bt a0 1)) - 128)) * 64)))) + (wrap64 (bt a0 2)))) - 128)) ≤ 57343)
              ·rw [if_pos c26] at H
               have c26b0 : decide ((wrap64 ((wrap64 ((wrap64 ((wrap64 ((wrap64 ((wrap64 (bt a0 0)) - 224)) * 4096)) + (wrap64 ((wrap64 ((wrap64 (bt a0 1)) - 128)) * 64)))) + (wrap64 (bt a0 2)))) - 128)) ≤ 57343) = true := decide_eq_true c26
               clear c26
               have H' := Ax.mk H
               clear H
               have p21 : 0 ≤ (1 : Int) := (by omega)
               have q21 : 1 < a0.size := (by have : (1 : Int) < (a0.size : Int) := ofD; omega)
               have hx21 : ∀ h : 1 < a0.size, ((a0[1]'h).toNat : Int) = bt a0 1 := bt_at a0 1
               clear p21
               have qi21 : (1 < (a0.size : Int)) = True := eq_true (ofD)
               replace q21 := eq_true q21
               have p23 : 0 ≤ (2 : Int) := (by omega)
               have q23 : 2 < a0.size := (by have : (2 : Int) < (a0.size : Int) := ofD; omega)
               have hx23 : ∀ h : 2 < a0.size, ((a0[2]'h).toNat : Int) = bt a0 2 := bt_at a0 2
               clear p23
               have qi23 : (2 < (a0.size : Int)) = True := eq_true (ofD)
               replace q23 := eq_true q23
               go_wp2
               repeat (go_quiet (fail); try go_wp2)
               go_meet
               case rel => exact ⟨_, H', ⟨by have := HJ4.out; have := HJ11.out; first | omega | exact Nat.le_refl _⟩, by repeat (first | exact Drawn0.refl _ | apply Drawn0.step)⟩
              ·rw [if_neg c26] at H
               have c26b0 : decide ((wrap64 ((wrap64 ((wrap64 ((wrap64 ((wrap64 ((wrap64 (bt a0 0)) - 224)) * 4096)) + (wrap64 ((wrap64 ((wrap64 (bt a0 1)) - 128)) * 64)))) + (wrap64 (bt a0 2)))) - 128)) ≤ 57343) = false := decide_eq_false c26
               clear c26
               simp only [Option.some.injEq, Prod.mk.injEq] at H
               obtain ⟨rfl, rfl⟩ := H
               have p21 : 0 ≤ (1 : Int) := (by omega)
               have q21 : 1 < a0.size := (by have : (1 : Int) < (a0.size : Int) := ofD; omega)
               have hx21 : ∀ h : 1 < a0.size, ((a0[1]'h).toNat : Int) = bt a0 1 := bt_at a0 1
               clear p21
               have qi21 : (1 < (a0.size : Int)) = True := eq_true (ofD)
               replace q21 := eq_true q21
               have p23 : 0 ≤ (2 : Int) := (by omega)
               have q23 : 2 < a0.size := (by have : (2 : Int) < (a0.size : Int) := ofD; omega)
               have hx23 : ∀ h : 2 < a0.size, ((a0[2]'h).toNat : Int) = bt a0 2 := bt_at a0 2
               clear p23
               have qi23 : (2 < (a0.size : Int)) = True := eq_true (ofD)
               replace q23 := eq_true q23
               go_wp2
               repeat (go_quiet (fail); try go_wp2)
               go_ret2
               exact ⟨by first | rfl | (simp; done) | (simp [*]; done), by repeat (first | exact Drawn0.refl _ | apply Drawn0.step)⟩
             ·rw [if_neg c25] at H
              have c25b0 : decide (55296 ≤ (wrap64 ((wrap64 ((wrap64 ((wrap64 ((wrap64 ((wrap64 (bt a0 0)) - 224)) * 4096)) + (wrap64 ((wrap64 ((wrap64 (bt a0 1)) - 128)) * 64)))) + (wrap64 (bt a0 2)))) - 128))) = false := decide_eq_false c25
              clear c25
              simp only [Option.some.injEq, Prod.mk.injEq] at H
              obtain ⟨rfl, rfl⟩ := H
              have p21 : 0 ≤ (1 : Int) := (by omega)
              have q21 : 1 < a0.size := (by have : (1 : Int) < (a0.size : Int) := ofD; omega)
              have hx21 : ∀ h : 1 < a0.size, ((a0[1]'h).toNat : Int) = bt a0 1 := bt_at a0 1
              clear p21
              have qi21 : (1 < (a0.size : Int)) = True := eq_true (ofD)
              replace q21 := eq_true q21
              have p23 : 0 ≤ (2 : Int) := (by omega)
              have q23 : 2 < a0.size := (by have : (2 : Int) < (a0.size : Int) := ofD; omega)
              have hx23 : ∀ h : 2 < a0.size, ((a0[2]'h).toNat : Int) = bt a0 2 := bt_at a0 2
              clear p23
              have qi23 : (2 < (a0.size : Int)) = True := eq_true (ofD)
              replace q23 := eq_true q23
              go_wp2
              repeat (go_quiet (fail); try go_wp2)
              go_ret2
              exact ⟨by first | rfl | (simp; done) | (simp [*]; done), by repeat (first | exact Drawn0.refl _ | apply Drawn0.step)⟩
            ·rw [if_neg c24] at H
             have c24b0 : decide (2048 ≤ (wrap64 ((wrap64 ((wrap64 ((wrap64 ((wrap64 ((wrap64 (bt a0 0)) - 224)) * 4096)) + (wrap64 ((wrap64 ((wrap64 (bt a0 1)) - 128)) * 64)))) + (wrap64 (bt a0 2)))) - 128))) = false := decide_eq_false c24
             clear c24
             have H' := Ax.mk H
             clear H
             have p21 : 0 ≤ (1 : Int) := (by omega)
             have q21 : 1 < a0.size := (by have : (1 : Int) < (a0.size : Int) := ofD; omega)
             have hx21 : ∀ h : 1 < a0.size, ((a0[1]'h).toNat : Int) = bt a0 1 := bt_at a0 1
             clear p21
             have qi21 : (1 < (a0.size : Int)) = True := eq_true (ofD)
             replace q21 := eq_true q21
             have p23 : 0 ≤ (2 : Int) := (by omega)
             have q23 : 2 < a0.size := (by have : (2 : Int) < (a0.size : Int) := ofD; omega)
             have hx23 : ∀ h : 2 < a0.size, ((a0[2]'h).toNat : Int) = bt a0 2 := bt_at a0 2
             clear p23
             have qi23 : (2 < (a0.size : Int)) = True := eq_true (ofD)
             replace q23 := eq_true q23
             go_wp2
             repeat (go_quiet (fail); try go_wp2)
             go_meet
             case rel => exact ⟨_, H', ⟨by have := HJ4.out; have := HJ11.out; first | omega | exact Nat.le_refl _⟩, by repeat (first | exact Drawn0.refl _ | apply Drawn0.step)⟩
           ·rw [if_neg c22] at H
            exact absurd H (by simp)
          ·rw [if_neg c20] at H
           exact absurd H (by simp)
         ·replace c19 := Bool.eq_false_iff.mpr c19
          subst c19
          have H1 : (r1_Rune.j2 kj11 a0 (wrap64 (bt a0 0))) = some (r1, r2) := by rw [if_neg (show ¬ (false = true) by decide)] at H; exact H
          clear H
          have H := H1
          clear H1
          have H' := Ax.mk H
          clear H
          go_wp2
          repeat (go_quiet (fail); try go_wp2)
          go_meet
          case rel => exact ⟨_, H', ⟨by have := HJ4.out; have := HJ11.out; first | omega | exact Nat.le_refl _⟩, by repeat (first | exact Drawn0.refl _ | apply Drawn0.step)⟩
        case rest =>
         clear HC18
         try clear c1
         try clear p1
         try clear q1
         try clear hx1
         try clear qi1
         try clear c2
         try clear c2b0
         try clear c2b1
         try clear p2
         try clear q2
         try clear hx2
         try clear qi2
         try clear p3
         try clear q3
         try clear hx3
         try clear qi3
         try clear c4
         try clear c4b0
         try clear c6
         try clear c6b0
         try clear p6
         try clear c7
         try clear c7b0
         try clear c9
         try clear c10
         try clear c10b0
         try clear c10b1
         try clear c11
         try clear p11
         try clear q11
         try clear hx11
         try clear qi11
         try clear c13
         try clear c13b0
         try clear c14
         try clear c14b0
         try clear c16
         try clear c19
         try clear c20
         try clear c20b0
         try clear c20b1
         try clear p21
         try clear q21
         try clear hx21
         try clear qi21
         try clear c22
         try clear c22b0
         try clear c22b1
         try clear p23
         try clear q23
         try clear hx23
         try clear qi23
         try clear c24
         try clear c24b0
         try clear c25
         try clear c25b0
         try clear c26
         try clear c26b0
         try clear p1
         try clear p11
         try clear p2
         try clear p21
         try clear p23
         try clear p3
         try clear p6
         try clear q1
         try clear q11
         try clear q21
         try clear q23
         try clear q3
         obtain ⟨kq, HA, HJ17, ⟨mc17, rfl⟩⟩ := hcut
         cases kq with
         | zero => exact absurd HA.out (by simp [r1_Rune.j2])
         | succ kj17 =>
          have H := HA.out
          clear HA
          simp only [r1_Rune.j2] at H
          have HC27 := Ax.mk H
          clear H
          go_upto_region 10 with (fail)
          repeat (go_quiet (fail); go_upto_region 10 with (fail))
          go_cut [88] (fun v88 wc => ∃ (kq : Nat) (x88_26 : Bool), v88 = .bool x88_26 ∧ Ax (r1_Rune.j3 kq a0 (wrap64 (bt a0 0)) x88_26 = some (r1, r2)) ∧ Ax (kq ≤ kj17) ∧ Drawn0 w wc)
          case first =>
           have H := HC27.out
           clear HC27
           by_cases c28 : (wrap64 (bt a0 0)) ≥ 240
           ·rw [if_pos c28] at H
            have c28b0 : decide (240 ≤ (wrap64 (bt a0 0))) = true := decide_eq_true c28
            clear c28
            (first | rw [c28b0] | (simp only [i64_w, i32_w]; rw [c28b0]) | skip)
            by_cases c29 : (wrap64 (bt a0 0)) ≤ 244
            ·rw [if_pos c29] at H
             have c29b0 : decide ((wrap64 (bt a0 0)) ≤ 244) = true := decide_eq_true c29
             clear c29
             replace H := Option.bind_eq_some_iff.mp H
             obtain ⟨t243, A300, H⟩ := H
             replace H : (if t243 = true then ((r1_more.f a0 2).bind fun t244 => (if t244 = true then ((r1_more.f a0 3).bind fun t245 => (r1_Rune.j3 kj17 a0 (wrap64 (bt a0 0)) t245)) else (r1_Rune.j3 kj17 a0 (wrap64 (bt a0 0)) false))) else (r1_Rune.j3 kj17 a0 (wrap64 (bt a0 0)) false)) = some (r1, r2) := H
             have A30 := Ax.mk A300
             clear A300
             by_cases c31 : t243 = true
             ·subst c31
              have H1 : ((r1_more.f a0 2).bind fun t244 => (if t244 = true then ((r1_more.f a0 3).bind fun t245 => (r1_Rune.j3 kj17 a0 (wrap64 (bt a0 0)) t245)) else (r1_Rune.j3 kj17 a0 (wrap64 (bt a0 0)) false))) = some (r1, r2) := by rw [if_pos rfl] at H; exact H
              clear H
              have H := H1
              clear H1
              replace H := Option.bind_eq_some_iff.mp H
              obtain ⟨t244, A320, H⟩ := H
              replace H : (if t244 = true then ((r1_more.f a0 3).bind fun t245 => (r1_Rune.j3 kj17 a0 (wrap64 (bt a0 0)) t245)) else (r1_Rune.j3 kj17 a0 (wrap64 (bt a0 0)) false)) = some (r1, r2) := H
              have A32 := Ax.mk A320
              clear A320
              by_cases c33 : t244 = true
              ·subst c33
               have H1 : ((r1_more.f a0 3).bind fun t245 => (r1_Rune.j3 kj17 a0 (wrap64 (bt a0 0)) t245)) = some (r1, r2) := by rw [if_pos rfl] at H; exact H
               clear H
               have H := H1
               clear H1
               replace H := Option.bind_eq_some_iff.mp H
               obtain ⟨t245, A340, H⟩ := H
               replace H : (r1_Rune.j3 kj17 a0 (wrap64 (bt a0 0)) t245) = some (r1, r2) := H
               have A34 := Ax.mk A340
               clear A340
               have H' := Ax.mk H
               clear H
               go_wp2_with (first | (go_at_call 83; (with_reducible refine (r1_more.calls a0 1 true _ A30.out).mono ?_); rintro e w' ⟨rfl, ⟨nd, rfl⟩⟩; (try first | exact ⟨rfl, _, World.drewN_drewN _ _ _⟩ | exact ⟨rfl, _, Eq.trans (World.drewN_drewN _ _ _) (congrArg (World.drewN _) (Nat.add_assoc _ _ _))⟩)) | (go_at_call 83; (with_reducible refine (r1_more.calls a0 2 true _ A32.out).mono ?_); rintro e w' ⟨rfl, ⟨nd, rfl⟩⟩; (try first | exact ⟨rfl, _, World.drewN_drewN _ _ _⟩ | exact ⟨rfl, _, Eq.trans (World.drewN_drewN _ _ _) (congrArg (World.drewN _) (Nat.add_assoc _ _ _))⟩)) | (go_at_call 83; (with_reducible refine (r1_more.calls a0 3 t245 _ A34.out).mono ?_); rintro e w' ⟨rfl, ⟨nd, rfl⟩⟩; (try first | exact ⟨rfl, _, World.drewN_drewN _ _ _⟩ | exact ⟨rfl, _, Eq.trans (World.drewN_drewN _ _ _) (congrArg (World.drewN _) (Nat.add_assoc _ _ _))⟩)))
               repeat (go_quiet (first | (go_at_call 83; (with_reducible refine (r1_more.calls a0 1 true _ A30.out).mono ?_); rintro e w' ⟨rfl, ⟨nd, rfl⟩⟩; (try first | exact ⟨rfl, _, World.drewN_drewN _ _ _⟩ | exact ⟨rfl, _, Eq.trans (World.drewN_drewN _ _ _) (congrArg (World.drewN _) (Nat.add_assoc _ _ _))⟩)) | (go_at_call 83; (with_reducible refine (r1_more.calls a0 2 true _ A32.out).mono ?_); rintro e w' ⟨rfl, ⟨nd, rfl⟩⟩; (try first | exact ⟨rfl, _, World.drewN_drewN _ _ _⟩ | exact ⟨rfl, _, Eq.trans (World.drewN_drewN _ _ _) (congrArg (World.drewN _) (Nat.add_assoc _ _ _))⟩)) | (go_at_call 83; (with_reducible refine (r1_more.calls a0 3 t245 _ A34.out).mono ?_); rintro e w' ⟨rfl, ⟨nd, rfl⟩⟩; (try first | exact ⟨rfl, _, World.drewN_drewN _ _ _⟩ | exact ⟨rfl, _, Eq.trans (World.drewN_drewN _ _ _) (congrArg (World.drewN _) (Nat.add_assoc _ _ _))⟩))); try go_wp2_with (first | (go_at_call 83; (with_reducible refine (r1_more.calls a0 1 true _ A30.out).mono ?_); rintro e w' ⟨rfl, ⟨nd, rfl⟩⟩; (try first | exact ⟨rfl, _, World.drewN_drewN _ _ _⟩ | exact ⟨rfl, _, Eq.trans (World.drewN_drewN _ _ _) (congrArg (World.drewN _) (Nat.add_assoc _ _ _))⟩)) | (go_at_call 83; (with_reducible refine (r1_more.calls a0 2 true _ A32.out).mono ?_); rintro e w' ⟨rfl, ⟨nd, rfl⟩⟩; (try first | exact ⟨rfl, _, World.drewN_drewN _ _ _⟩ | exact ⟨rfl, _, Eq.trans (World.drewN_drewN _ _ _) (congrArg (World.drewN _) (Nat.add_assoc _ _ _))⟩)) | (go_at_call 83; (with_reducible refine (r1_more.calls a0 3 t245 _ A34.out).mono ?_); rintro e w' ⟨rfl, ⟨nd, rfl⟩⟩; (try first | exact ⟨rfl, _, World.drewN_drewN _ _ _⟩ | exact ⟨rfl, _, Eq.trans (World.drewN_drewN _ _ _) (congrArg (World.drewN _) (Nat.add_assoc _ _ _))⟩))))
               go_meet
               case rel => exact ⟨_, (t245), (by first | rfl | (simp; done) | (simp [*]; done)), H', ⟨by have := HJ4.out; have := HJ11.out; have := HJ17.out; first | omega | exact Nat.le_refl _⟩, by repeat (first | exact Drawn0.refl _ | apply Drawn0.step)⟩
              ·replace c33 := Bool.eq_false_iff.mpr c33
               subst c33
               have H1 : (r1_Rune.j3 kj17 a0 (wrap64 (bt a0 0)) false) = some (r1, r2) := by rw [if_neg (show ¬ (false = true) by decide)] at H; exact H
               clear H
               have H := H1
               clear H1
               have H' := Ax.mk H
               clear H
               go_wp2_with (first | (go_at_call 83; (with_reducible refine (r1_more.calls a0 1 true _ A30.out).mono ?_); rintro e w' ⟨rfl, ⟨nd, rfl⟩⟩; (try first | exact ⟨rfl, _, World.drewN_drewN _ _ _⟩ | exact ⟨rfl, _, Eq.trans (World.drewN_drewN _ _ _) (congrArg (World.drewN _) (Nat.add_assoc _ _ _))⟩)) | (go_at_call 83; (with_reducible refine (r1_more.calls a0 2 false _ A32.out).mono ?_); rintro e w' ⟨rfl, ⟨nd, rfl⟩⟩; (try first | exact ⟨rfl, _, World.drewN_drewN _ _ _⟩ | exact ⟨rfl, _, Eq.trans (World.drewN_drewN _ _ _) (congrArg (World.drewN _) (Nat.add_assoc _ _ _))⟩)))
               repeat (go_quiet (first | (go_at_call 83; (with_reducible refine (r1_more.calls a0 1 true _ A30.out).mono ?_); rintro e w' ⟨rfl, ⟨nd, rfl⟩⟩; (try first | exact ⟨rfl, _, World.drewN_drewN _ _ _⟩ | exact ⟨rfl, _, Eq.trans (World.drewN_drewN _ _ _) (congrArg (World.drewN _) (Nat.add_assoc _ _ _))⟩)) | (go_at_call 83; (with_reducible refine (r1_more.calls a0 2 false _ A32.out).mono ?_); rintro e w' ⟨rfl, ⟨nd, rfl⟩⟩; (try first | exact ⟨rfl, _, World.drewN_drewN _ _ _⟩ | exact ⟨rfl, _, Eq.trans (World.drewN_drewN _ _ _) (congrArg (World.drewN _) (Nat.add_assoc _ _ _))⟩))); try go_wp2_with (first | (go_at_call 83; (with_reducible refine (r1_more.calls a0 1 true _ A30.out).mono ?_); rintro e w' ⟨rfl, ⟨nd, rfl⟩⟩; (try first | exact ⟨rfl, _, World.drewN_drewN _ _ _⟩ | exact ⟨rfl, _, Eq.trans (World.drewN_drewN _ _ _) (congrArg (World.drewN _) (Nat.add_assoc _ _ _))⟩)) | (go_at_call 83; (with_reducible refine (r1_more.calls a0 2 false _ A32.out).mono ?_); rintro e w' ⟨rfl, ⟨nd, rfl⟩⟩; (try first | exact ⟨rfl, _, World.drewN_drewN _ _ _⟩ | exact ⟨rfl, _, Eq.trans (World.drewN_drewN _ _ _) (congrArg (World.drewN _) (Nat.add_assoc _ _ _))⟩))))
               go_meet
               case rel => exact ⟨_, (false), (by first | rfl | (simp; done) | (simp [*]; done)), H', ⟨by have := HJ4.out; have := HJ11.out; have := HJ17.out; first | omega | exact Nat.le_refl _⟩, by repeat (first | exact Drawn0.refl _ | apply Drawn0.step)⟩
             ·replace c31 := Bool.eq_false_iff.mpr c31
              subst c31
              have H1 : (r1_Rune.j3 kj17 a0 (wrap64 (bt a0 0)) false) = some (r1, r2) := by rw [if_neg (show ¬ (false = true) by decide)] at H; exact H
              clear H
              have H := H1
              clear H1
              have H' := Ax.mk H
              clear H
              go_wp2_with (first | (go_at_call 83; (with_reducible refine (r1_more.calls a0 1 false _ A30.out).mono ?_); rintro e w' ⟨rfl, ⟨nd, rfl⟩⟩; (try first | exact ⟨rfl, _, World.drewN_drewN _ _ _⟩ | exact ⟨rfl, _, Eq.trans (World.drewN_drewN _ _ _) (congrArg (World.drewN _) (Nat.add_assoc _ _ _))⟩)))
              repeat (go_quiet (first | (go_at_call 83; (with_reducible refine (r1_more.calls a0 1 false _ A30.out).mono ?_); rintro e w' ⟨rfl, ⟨nd, rfl⟩⟩; (try first | exact ⟨rfl, _, World.drewN_drewN _ _ _⟩ | exact ⟨rfl, _, Eq.trans (World.drewN_drewN _ _ _) (congrArg (World.drewN _) (Nat.add_assoc _ _ _))⟩))); try go_wp2_with (first | (go_at_call 83; (with_reducible refine (r1_more.calls a0 1 false _ A30.out).mono ?_); rintro e w' ⟨rfl, ⟨nd, rfl⟩⟩; (try first | exact ⟨rfl, _, World.drewN_drewN _ _ _⟩ | exact ⟨rfl, _, Eq.trans (World.drewN_drewN _ _ _) (congrArg (World.drewN _) (Nat.add_assoc _ _ _))⟩))))
              go_meet
              case rel => exact ⟨_, (false), (by first | rfl | (simp; done) | (simp [*]; done)), H', ⟨by have := HJ4.out; have := HJ11.out; have := HJ17.out; first | omega | exact Nat.le_refl _⟩, by repeat (first | exact Drawn0.refl _ | apply Drawn0.step)⟩
            ·rw [if_neg c29] at H
             have c29b0 : decide ((wrap64 (bt a0 0)) ≤ 244) = false := decide_eq_false c29
             clear c29
             have H' := Ax.mk H
             clear H
             go_wp2
             repeat (go_quiet (fail); try go_wp2)
             go_meet
             case rel => exact ⟨_, (false), (by first | rfl | (simp; done) | (simp [*]; done)), H', ⟨by have := HJ4.out; have := HJ11.out; have := HJ17.out; first | omega | exact Nat.le_refl _⟩, by repeat (first | exact Drawn0.refl _ | apply Drawn0.step)⟩
           ·rw [if_neg c28] at H
            have c28b0 : decide (240 ≤ (wrap64 (bt a0 0))) = false := decide_eq_false c28
            clear c28
            (first | rw [c28b0] | (simp only [i64_w, i32_w]; rw [c28b0]) | skip)
            have H' := Ax.mk H
            clear H
            go_wp2
            repeat (go_quiet (fail); try go_wp2)
            go_meet
            case rel => exact ⟨_, (false), (by first | rfl | (simp; done) | (simp [*]; done)), H', ⟨by have := HJ4.out; have := HJ11.out; have := HJ17.out; first | omega | exact Nat.le_refl _⟩, by repeat (first | exact Drawn0.refl _ | apply Drawn0.step)⟩
          case rest =>
           clear HC27
           try clear c1
           try clear p1
           try clear q1
           try clear hx1
           try clear qi1
           try clear c2
           try clear c2b0
           try clear c2b1
           try clear p2
           try clear q2
           try clear hx2
           try clear qi2
           try clear c3
           try clear p3
           try clear q3
           try clear hx3
           try clear qi3
           try clear c4
           try clear c4b0
           try clear c6
           try clear c6b0
           try clear p6
           try clear c7
           try clear c7b0
           try clear c9
           try clear c10
           try clear c10b0
           try clear c10b1
           try clear c11
           try clear p11
           try clear q11
           try clear hx11
           try clear qi11
           try clear c13
           try clear c13b0
           try clear c14
           try clear c14b0
           try clear c16
           try clear c17
           try clear c19
           try clear c20
           try clear c20b0
           try clear c20b1
           try clear p21
           try clear q21
           try clear hx21
           try clear qi21
           try clear c22
           try clear c22b0
           try clear c22b1
           try clear p23
           try clear q23
           try clear hx23
           try clear qi23
           try clear c24
           try clear c24b0
           try clear c25
           try clear c25b0
           try clear c26
           try clear c26b0
           try clear c28
           try clear c28b0
           try clear c29
           try clear c29b0
           try clear c31
           try clear c33
           try clear p1
           try clear p11
           try clear p2
           try clear p21
           try clear p23
           try clear p3
           try clear p6
           try clear q1
           try clear q11
           try clear q2
           try clear q21
           try clear q23
           try clear q3
           obtain ⟨kq, x88_26, rfl, HA, HJ26, ⟨mc26, rfl⟩⟩ := hcut
           cases kq with
           | zero => exact absurd HA.out (by simp [r1_Rune.j3])
           | succ kj26 =>
            have H := HA.out
            clear HA
            simp only [r1_Rune.j3] at H
            by_cases c35 : x88_26 = true
            ·subst c35
             have H1 : (if 1 < (a0.size : Int) then (if 2 < (a0.size : Int) then (if 3 < (a0.size : Int) then (if (wrap64 ((wrap64 ((wrap64 ((wrap64 ((wrap64 ((wrap64 ((wrap64 (bt a0 0)) - 240)) * 262144)) + (wrap64 ((wrap64 ((wrap64 (bt a0 1)) - 128)) * 4096)))) + (wrap64 ((wrap64 ((wrap64 (bt a0 2)) - 128)) * 64)))) + (wrap64 (bt a0 3)))) - 128)) ≥ 65536 then (if (wrap64 ((wrap64 ((wrap64 ((wrap64 ((wrap64 ((wrap64 ((wrap64 (bt a0 0)) - 240)) * 262144)) + (wrap64 ((wrap64 ((wrap64 (bt a0 1)) - 128)) * 4096)))) + (wrap64 ((wrap64 ((wrap64 (bt a0 2)) - 128)) * 64)))) + (wrap64 (bt a0 3)))) - 128)) ≤ 1114111 then (some (wrap64 ((wrap64 ((wrap64 ((wrap64 ((wrap64 ((wrap64 ((wrap64 (bt a0 0)) - 240)) * 262144)) + (wrap64 ((wrap64 ((wrap64 (bt a0 1)) - 128)) * 4096)))) + (wrap64 ((wrap64 ((wrap64 (bt a0 2)) - 128)) * 64)))) + (wrap64 (bt a0 3)))) - 128), 4)) else (some ((-1), 1))) else (some ((-1), 1))) else (none)) else (none)) else (none)) = some (r1, r2) := by rw [if_pos rfl] at H; exact H
             clear H
             have H := H1
             clear H1
             by_cases c36 : 1 < (a0.size : Int)
             ·rw [if_pos c36] at H
              have c36b0 : decide (1 < (a0.size : Int)) = true := decide_eq_true c36
              have c36b1 : decide (1 < a0.size) = true := decide_eq_true (by omega)
              clear c36
              by_cases c38 : 2 < (a0.size : Int)
              ·rw [if_pos c38] at H
               have c38b0 : decide (2 < (a0.size : Int)) = true := decide_eq_true c38
               have c38b1 : decide (2 < a0.size) = true := decide_eq_true (by omega)
               clear c38
               by_cases c40 : 3 < (a0.size : Int)
               ·rw [if_pos c40] at H
                have c40b0 : decide (3 < (a0.size : Int)) = true := decide_eq_true c40
                have c40b1 : decide (3 < a0.size) = true := decide_eq_true (by omega)
                clear c40
                by_cases c42 : (wrap64 ((wrap64 ((wrap64 ((wrap64 ((wrap64 ((wrap64 ((wrap64 (bt a0 0)) - 240)) * 262144)) + (wrap64 ((wrap64 ((wrap64 (bt a0 1)) - 128)) * 4096)))) + (wrap64 ((wrap64 ((wrap64 (bt a0 2)) - 128)) * 64)))) + (wrap64 (bt a0 3)))) - 128)) ≥ 65536
                ·rw [if_pos c42] at H
                 have c42b0 : decide (65536 ≤ (wrap64 ((wrap64 ((wrap64 ((wrap64 ((wrap64 ((wrap64 ((wrap64 (bt a0 0)) - 240)) * 262144)) + (wrap64 ((wrap64 ((wrap64 (bt a0 1)) - 128)) * 4096)))) + (wrap64 ((wrap64 ((wrap64 (bt a0 2)) - 128)) * 64)))) + (wrap64 (bt a0 3)))) - 128))) = true := decide_eq_true c42
                 clear c42
                 by_cases c43 : (wrap64 ((wrap64 ((wrap64 ((wrap64 ((wrap64 ((wrap64 ((wrap64 (bt a0 0)) - 240)) * 262144)) + (wrap64 ((wrap64 ((wrap64 (bt a0 1)) - 128)) * 4096)))) + (wrap64 ((wrap64 ((wrap64 (bt a0 2)) - 128)) * 64)))) + (wrap64 (bt a0 3)))) - 128)) ≤ 1114111
                 ·rw [if_pos c43] at H
                  have c43b0 : decide ((wrap64 ((wrap64 ((wrap64 ((wrap64 ((wrap64 ((wrap64 ((wrap64 (bt a0 0)) - 240)) * 262144)) + (wrap64 ((wrap64 ((wrap64 (bt a0 1)) - 128)) * 4096)))) + (wrap64 ((wrap64 ((wrap64 (bt a0 2)) - 128)) * 64)))) + (wrap64 (bt a0 3)))) - 128)) ≤ 1114111) = true := decide_eq_true c43
                  clear c43
                  simp only [Option.some.injEq, Prod.mk.injEq] at H
                  obtain ⟨rfl, rfl⟩ := H
                  have p37 : 0 ≤ (1 : Int) := (by omega)
                  have q37 : 1 < a0.size := (by have : (1 : Int) < (a0.size : Int) := ofD; omega)
                  have hx37 : ∀ h : 1 < a0.size, ((a0[1]'h).toNat : Int) = bt a0 1 := bt_at a0 1
                  clear p37
                  have qi37 : (1 < (a0.size : Int)) = True := eq_true (ofD)
                  replace q37 := eq_true q37
                  have p39 : 0 ≤ (2 : Int) := (by omega)
                  have q39 : 2 < a0.size := (by have : (2 : Int) < (a0.size : Int) := ofD; omega)
                  have hx39 : ∀ h : 2 < a0.size, ((a0[2]'h).toNat : Int) = bt a0 2 := bt_at a0 2
                  clear p39
                  have qi39 : (2 < (a0.size : Int)) = True := eq_true (ofD)
                  replace q39 := eq_true q39
                  have p41 : 0 ≤ (3 : Int) := (by omega)
                  have q41 : 3 < a0.size := (by have : (3 : Int) < (a0.size : Int) := ofD; omega)
                  have hx41 : ∀ h : 3 < a0.size, ((a0[3]'h).toNat : Int) = bt a0 3 := bt_at a0 3
                  clear p41
                  have qi41 : (3 < (a0.size : Int)) = True := eq_true (ofD)
                  replace q41 := eq_true q41
                  go_wp2
                  repeat (go_quiet (fail); try go_wp2)
                  go_ret2
                  exact ⟨by first | rfl | (simp; done) | (simp [*]; done), by repeat (first | exact Drawn0.refl _ | apply Drawn0.step)⟩
                 ·rw [if_neg c43] at H
                  have c43b0 : decide ((wrap64 ((wrap64 ((wrap64 ((wrap64 ((wrap64 ((wrap64 ((wrap64 (bt a0 0)) - 240)) * 262144)) + (wrap64 ((wrap64 ((wrap64 (bt a0 1)) - 128)) * 4096)))) + (wrap64 ((wrap64 ((wrap64 (bt a0 2)) - 128)) * 64)))) + (wrap64 (bt a0 3)))) - 128)) ≤ 1114111) = false := decide_eq_false c43
                  clear c43
                  simp only [Option.some.injEq, Prod.mk.injEq] at H
                  obtain ⟨rfl, rfl⟩ := H
                  have p37 : 0 ≤ (1 : Int) := (by omega)
                  have q37 : 1 < a0.size := (by have : (1 : Int) < (a0.size : Int) := ofD; omega)
                  have hx37 : ∀ h : 1 < a0.size, ((a0[1]'h).toNat : Int) = bt a0 1 := bt_at a0 1
                  clear p37
                  have qi37 : (1 < (a0.size : Int)) = True := eq_true (ofD)
                  replace q37 := eq_true q37
                  have p39 : 0 ≤ (2 : Int) := (by omega)
                  have q39 : 2 < a0.size := (by have : (2 : Int) < (a0.size : Int) := ofD; omega)
                  have hx39 : ∀ h : 2 < a0.size, ((a0[2]'h).toNat : Int) = bt a0 2 := bt_at a0 2
                  clear p39
                  have qi39 : (2 < (a0.size : Int)) = True := eq_true (ofD)
                  replace q39 := eq_true q39
                  have p41 : 0 ≤ (3 : Int) := (by omega)
                  have q41 : 3 < a0.size := (by have : (3 : Int) < (a0.size : Int) := ofD; omega)
                  have hx41 : ∀ h : 3 < a0.size, ((a0[3]'h).toNat : Int) = bt a0 3 := bt_at a0 3
                  clear p41
                  have qi41 : (3 < (a0.size : Int)) = True := eq_true (ofD)
                  replace q41 := eq_true q41
                  go_wp2
                  repeat (go_quiet (fail); try go_wp2)
                  go_ret2
                  exact ⟨by first | rfl | (simp; done) | (simp [*]; done), by repeat (first | exact Drawn0.refl _ | apply Drawn0.step)⟩
                ·rw [if_neg c42] at H
                 have c42b0 : decide (65536 ≤ (wrap64 ((wrap64 ((wrap64 ((wrap64 ((wrap64 ((wrap64 ((wrap64 (bt a0 0)) - 240)) * 262144)) + (wrap64 ((wrap64 ((wrap64 (bt a0 1)) - 128)) * 4096)))) + (wrap64 ((wrap64 ((wrap64 (bt a0 2)) - 128)) * 64)))) + (wrap64 (bt a0 3)))) - 128))) = false := decide_eq_false c42
                 clear c42
                 simp only [Option.some.injEq, Prod.mk.injEq] at H
                 obtain ⟨rfl, rfl⟩ := H
                 have p37 : 0 ≤ (1 : Int) := (by omega)
                 have q37 : 1 < a0.size := (by have : (1 : Int) < (a0.size : Int) := ofD; omega)
                 have hx37 : ∀ h : 1 < a0.size, ((a0[1]'h).toNat : Int) = bt a0 1 := bt_at a0 1
                 clear p37
                 have qi37 : (1 < (a0.size : Int)) = True := eq_true (ofD)
                 replace q37 := eq_true q37
                 have p39 : 0 ≤ (2 : Int) := (by omega)
                 have q39 : 2 < a0.size := (by have : (2 : Int) < (a0.size : Int) := ofD; omega)
                 have hx39 : ∀ h : 2 < a0.size, ((a0[2]'h).toNat : Int) = bt a0 2 := bt_at a0 2
                 clear p39
                 have qi39 : (2 < (a0.size : Int)) = True := eq_true (ofD)
                 replace q39 := eq_true q39
                 have p41 : 0 ≤ (3 : Int) := (by omega)
                 have q41 : 3 < a0.size := (by have : (3 : Int) < (a0.size : Int) := ofD; omega)
                 have hx41 : ∀ h : 3 < a0.size, ((a0[3]'h).toNat : Int) = bt a0 3 := bt_at a0 3
                 clear p41
                 have qi41 : (3 < (a0.size : Int)) = True := eq_true (ofD)
                 replace q41 := eq_true q41
                 go_wp2
                 repeat (go_quiet (fail); try go_wp2)
                 go_ret2
                 exact ⟨by first | rfl | (simp; done) | (simp [*]; done), by repeat (first | exact Drawn0.refl _ | apply Drawn0.step)⟩
               ·rw [if_neg c40] at H
                exact absurd H (by simp)
              ·rw [if_neg c38] at H
               exact absurd H (by simp)
             ·rw [if_neg c36] at H
              exact absurd H (by simp)
            ·replace c35 := Bool.eq_false_iff.mpr c35
             subst c35
             have H1 : (some ((-1), 1)) = some (r1, r2) := by rw [if_neg (show ¬ (false = true) by decide)] at H; exact H
             clear H
             have H := H1
             clear H1
             simp only [Option.some.injEq, Prod.mk.injEq] at H
             obtain ⟨rfl, rfl⟩ := H
             go_wp2
             repeat (go_quiet (fail); try go_wp2)
             go_ret2
             exact ⟨by first | rfl | (simp; done) | (simp [*]; done), by repeat (first | exact Drawn0.refl _ | apply Drawn0.step)⟩
 ·rw [if_neg c2] at H
  exact absurd H (by simp)
def r1_Valid.l0 : Nat → ByteArray → Option (Bool)
 | 0, _ => none
 | k + 1, x0 => if x0.toList = ([] : List UInt8) then (some true) else ((r1_Rune.f k x0).bind fun bt246 => (if bt246.1 < 0 then (some false) else (if 0 ≤ bt246.2 then (if bt246.2 ≤ (x0.size : Int) then (r1_Valid.l0 k (x0.extract (bt246.2 : Int).toNat x0.size)) else (none)) else (none))))
def r1_Valid.f (k : Nat) (a0 : ByteArray) : Option (Bool) := r1_Valid.l0 k a0
theorem r1_Valid.mono_l : ∀ k, (∀ y0, LeO (r1_Valid.l0 k y0) (r1_Valid.l0 (k + 1) y0))
 | 0 => fun _ r h => by simp [r1_Valid.l0] at h
 | k + 1 => by
  have ih0 := r1_Valid.mono_l k
  ·intro y0
   unfold r1_Valid.l0
   repeat' first
   | (with_reducible exact ih0 _)
   | (with_reducible exact r1_Rune.mono _ _)
   | (with_reducible exact LeO.refl _)
   | (with_reducible exact LeO.none _)
   | (with_reducible refine LeO.ite ?_ ?_)
   | (with_reducible refine LeO.bind ?_ (fun _ => ?_))
   | exact ih0 _
   | exact r1_Rune.mono _ _
   | exact LeO.none _
   | refine LeO.ite ?_ ?_
   | refine LeO.bind ?_ (fun _ => ?_)
theorem r1_Valid.mono : ∀ a0 k, LeO (r1_Valid.f k a0) (r1_Valid.f (k + 1) a0) := by
 intro a0 k
 have ih0 := r1_Valid.mono_l k
 unfold r1_Valid.f
 repeat' first
   | (with_reducible exact ih0 _)
   | (with_reducible exact r1_Rune.mono _ _)
   | (with_reducible exact LeO.refl _)
   | (with_reducible exact LeO.none _)
   | (with_reducible refine LeO.ite ?_ ?_)
   | (with_reducible refine LeO.bind ?_ (fun _ => ?_))
   | exact ih0 _
   | exact r1_Rune.mono _ _
   | exact LeO.none _
   | refine LeO.ite ?_ ?_
   | refine LeO.bind ?_ (fun _ => ?_)
set_option maxHeartbeats 8000000 in
set_option maxRecDepth 100000 in
theorem r1_Valid.calls (k : Nat) (a0 : ByteArray) (r : Bool) (w : World) (h : r1_Valid.f k a0 = some r) :
  Calls Tryd.prog 70 #[.string a0] w fun e w' => e = .returned (.bool r) ∧ Drawn0 w w' := by
 have H : (r1_Valid.l0 k a0) = some r := h
 clear h
 have H' := Ax.mk H
 clear H
 go_enter Tryd.func70, Tryd.ntmps70
 go_wp2
 go_loopg [0] k (fun kq v0 w' => ∃ (x0_1 : ByteArray), v0 = .string x0_1 ∧ Ax (r1_Valid.l0 kq x0_1 = some r) ∧ Ax (kq ≤ k) ∧ Drawn0 w w')
 case atStart => exact ⟨(a0), (by first | rfl | (simp; done) | (simp [*]; done)), H', ⟨Nat.le_refl _⟩, by repeat (first | exact Drawn0.refl _ | apply Drawn0.step)⟩
 case round =>
  clear H'
  obtain ⟨x0_1, rfl, HA, HK1, ⟨m1, rfl⟩⟩ := hrel
  cases gk with
  | zero => exact absurd HA.out (by simp [r1_Valid.l0])
  | succ k1 =>
   have H := HA.out
   clear HA
   simp only [r1_Valid.l0] at H
   by_cases c2 : x0_1.toList = ([] : List UInt8)
   ·rw [if_pos c2] at H
    have c2b0 : (x0_1.toList == ([] : List UInt8)) = true := beq_iff_eq.mpr c2
    have c2b1 : (x0_1.toList != ([] : List UInt8)) = false := bne_eq_false_iff_eq.mpr c2
    clear c2
    obtain rfl := Option.some.inj H
    go_wp2
    go_ret
    exact ⟨by first | rfl | (simp; done) | (simp [*]; done), by repeat (first | exact Drawn0.refl _ | apply Drawn0.step)⟩
   ·rw [if_neg c2] at H
    have c2b0 : (x0_1.toList == ([] : List UInt8)) = false := beq_eq_false_iff_ne.mpr c2
    have c2b1 : (x0_1.toList != ([] : List UInt8)) = true := bne_iff_ne.mpr c2
    replace H := Option.bind_eq_some_iff.mp H
    obtain ⟨⟨t246, t247⟩, A30, H⟩ := H
    replace H : (if t246 < 0 then (some false) else (if 0 ≤ t247 then (if t247 ≤ (x0_1.size : Int) then (r1_Valid.l0 k1 (x0_1.extract (t247 : Int).toNat x0_1.size)) else (none)) else (none))) = some r := H
    have A3 := Ax.mk A30
    clear A30
    by_cases c4 : t246 < 0
    ·rw [if_pos c4] at H
     have c4b0 : decide (t246 < 0) = true := decide_eq_true c4
     clear c4
     obtain rfl := Option.some.inj H
     go_wp2_with (first | ((with_reducible refine gate_callee (f := 78) rfl ?_); refine goesL_ (some 9) rfl rfl Tryd.func78 (by kernel_rfl) rfl #[.string x0_1] rfl (by (try simp only [List.map_toArray, List.map_cons, List.map_nil]); first | done | rfl | (simp only [List.length_drop, List.length_take]; rfl) | (rw [wrap_sum2 (by assumption)]; rfl)) ?_; (with_reducible refine (r1_Rune.calls k1 x0_1 t246 t247 _ A3.out).mono ?_); rintro e w' ⟨rfl, ⟨nd, rfl⟩⟩; refine ⟨_, rfl, ?_⟩))
     go_ret
     exact ⟨by first | rfl | (simp; done) | (simp [*]; done), by repeat (first | exact Drawn0.refl _ | apply Drawn0.step)⟩
    ·rw [if_neg c4] at H
     have c4b0 : decide (t246 < 0) = false := decide_eq_false c4
     clear c4
     by_cases c5 : 0 ≤ t247
     ·rw [if_pos c5] at H
      have c5b0 := eq_true c5
      have c5b1 : decide (0 ≤ t247) = true := decide_eq_true c5
      clear c5
      by_cases c6 : t247 ≤ (x0_1.size : Int)
      ·rw [if_pos c6] at H
       have c6b0 := eq_true c6
       have c6b1 : decide (t247 ≤ (x0_1.size : Int)) = true := decide_eq_true c6
       clear c6
       have H' := Ax.mk H
       clear H
       go_wp2_with (first | ((with_reducible refine gate_callee (f := 78) rfl ?_); refine goesL_ (some 9) rfl rfl Tryd.func78 (by kernel_rfl) rfl #[.string x0_1] rfl (by (try simp only [List.map_toArray, List.map_cons, List.map_nil]); first | done | rfl | (simp only [List.length_drop, List.length_take]; rfl) | (rw [wrap_sum2 (by assumption)]; rfl)) ?_; (with_reducible refine (r1_Rune.calls k1 x0_1 t246 t247 _ A3.out).mono ?_); rintro e w' ⟨rfl, ⟨nd, rfl⟩⟩; refine ⟨_, rfl, ?_⟩))
       go_roundg k1
       case measure => have := HK1.out; omega
       case rel => exact ⟨(x0_1.extract (t247 : Int).toNat x0_1.size), (by first | rfl | (simp; done) | (simp [*]; done)), H', ⟨by have := HK1.out; omega⟩, by repeat (first | exact Drawn0.refl _ | apply Drawn0.step)⟩
      ·rw [if_neg c6] at H
       exact absurd H (by simp)
     ·rw [if_neg c5] at H
      exact absurd H (by simp)
def r1_Count.l0 : Nat → ByteArray → Int → Option (Int)
 | 0, _, _ => none
 | k + 1, x0, x3 => if x0.toList = ([] : List UInt8) then (some x3) else ((r1_Rune.f k x0).bind fun bt248 => (if 0 ≤ bt248.2 then (if bt248.2 ≤ (x0.size : Int) then (r1_Count.l0 k (x0.extract (bt248.2 : Int).toNat x0.size) (wrap64 (x3 + 1))) else (none)) else (none)))
def r1_Count.f (k : Nat) (a0 : ByteArray) : Option (Int) := r1_Count.l0 k a0 0
theorem r1_Count.mono_l : ∀ k, (∀ y0 y1, LeO (r1_Count.l0 k y0 y1) (r1_Count.l0 (k + 1) y0 y1))
 | 0 => fun _ _ r h => by simp [r1_Count.l0] at h
 | k + 1 => by
  have ih0 := r1_Count.mono_l k
  ·intro y0 y1
   unfold r1_Count.l0
   repeat' first
   | (with_reducible exact ih0 _ _)
   | (with_reducible exact r1_Rune.mono _ _)
   | (with_reducible exact LeO.refl _)
   | (with_reducible exact LeO.none _)
   | (with_reducible refine LeO.ite ?_ ?_)
   | (with_reducible refine LeO.bind ?_ (fun _ => ?_))
   | exact ih0 _ _
   | exact r1_Rune.mono _ _
   | exact LeO.none _
   | refine LeO.ite ?_ ?_
   | refine LeO.bind ?_ (fun _ => ?_)
theorem r1_Count.mono : ∀ a0 k, LeO (r1_Count.f k a0) (r1_Count.f (k + 1) a0) := by
 intro a0 k
 have ih0 := r1_Count.mono_l k
 unfold r1_Count.f
 repeat' first
   | (with_reducible exact ih0 _ _)
   | (with_reducible exact r1_Rune.mono _ _)
   | (with_reducible exact LeO.refl _)
   | (with_reducible exact LeO.none _)
   | (with_reducible refine LeO.ite ?_ ?_)
   | (with_reducible refine LeO.bind ?_ (fun _ => ?_))
   | exact ih0 _ _
   | exact r1_Rune.mono _ _
   | exact LeO.none _
   | refine LeO.ite ?_ ?_
   | refine LeO.bind ?_ (fun _ => ?_)
set_option maxHeartbeats 8000000 in
set_option maxRecDepth 100000 in
theorem r1_Count.calls (k : Nat) (a0 : ByteArray) (r : Int) (w : World) (h : r1_Count.f k a0 = some r) :
  Calls Tryd.prog 71 #[.string a0] w fun e w' => e = .returned (.int .i64 r) ∧ Drawn0 w w' := by
 have H : (r1_Count.l0 k a0 0) = some r := h
 clear h
 have H' := Ax.mk H
 clear H
 go_enter Tryd.func71, Tryd.ntmps71
 go_wp2
 go_loopg [0, 3] k (fun kq v0 v3 w' => ∃ (x0_1 : ByteArray) (x3_1 : Int), v0 = .string x0_1 ∧ v3 = .int .i64 x3_1 ∧ Ax (r1_Count.l0 kq x0_1 x3_1 = some r) ∧ Ax (kq ≤ k) ∧ Drawn0 w w')
 case atStart => exact ⟨(a0), (0), (by first | rfl | (simp; done) | (simp [*]; done)), (by first | rfl | (simp; done) | (simp [*]; done)), H', ⟨Nat.le_refl _⟩, by repeat (first | exact Drawn0.refl _ | apply Drawn0.step)⟩
 case round =>
  clear H'
  obtain ⟨x0_1, x3_1, rfl, rfl, HA, HK1, ⟨m1, rfl⟩⟩ := hrel
  cases gk with
  | zero => exact absurd HA.out (by simp [r1_Count.l0])
  | succ k1 =>
   have H := HA.out
   clear HA
   simp only [r1_Count.l0] at H
   by_cases c2 : x0_1.toList = ([] : List UInt8)
   ·rw [if_pos c2] at H
    have c2b0 : (x0_1.toList == ([] : List UInt8)) = true := beq_iff_eq.mpr c2
    have c2b1 : (x0_1.toList != ([] : List UInt8)) = false := bne_eq_false_iff_eq.mpr c2
    clear c2
    obtain rfl := Option.some.inj H
    go_wp2
    go_ret
    exact ⟨by first | rfl | (simp; done) | (simp [*]; done), by repeat (first | exact Drawn0.refl _ | apply Drawn0.step)⟩
   ·rw [if_neg c2] at H
    have c2b0 : (x0_1.toList == ([] : List UInt8)) = false := beq_eq_false_iff_ne.mpr c2
    have c2b1 : (x0_1.toList != ([] : List UInt8)) = true := bne_iff_ne.mpr c2
    replace H := Option.bind_eq_some_iff.mp H
    obtain ⟨⟨t248, t249⟩, A30, H⟩ := H
    replace H : (if 0 ≤ t249 then (if t249 ≤ (x0_1.size : Int) then (r1_Count.l0 k1 (x0_1.extract (t249 : Int).toNat x0_1.size) (wrap64 (x3_1 + 1))) else (none)) else (none)) = some r := H
    have A3 := Ax.mk A30
    clear A30
    by_cases c4 : 0 ≤ t249
    ·rw [if_pos c4] at H
     have c4b0 := eq_true c4
     have c4b1 : decide (0 ≤ t249) = true := decide_eq_true c4
     clear c4
     by_cases c5 : t249 ≤ (x0_1.size : Int)
     ·rw [if_pos c5] at H
      have c5b0 := eq_true c5
      have c5b1 : decide (t249 ≤ (x0_1.size : Int)) = true := decide_eq_true c5
      clear c5
      have H' := Ax.mk H
      clear H
      go_wp2_with (first | ((with_reducible refine gate_callee (f := 78) rfl ?_); refine goesL_ (some 10) rfl rfl Tryd.func78 (by kernel_rfl) rfl #[.string x0_1] rfl (by (try simp only [List.map_toArray, List.map_cons, List.map_nil]); first | done | rfl | (simp only [List.length_drop, List.length_take]; rfl) | (rw [wrap_sum2 (by assumption)]; rfl)) ?_; (with_reducible refine (r1_Rune.calls k1 x0_1 t248 t249 _ A3.out).mono ?_); rintro e w' ⟨rfl, ⟨nd, rfl⟩⟩; refine ⟨_, rfl, ?_⟩))
      go_roundg k1
      case measure => have := HK1.out; omega
      case rel => exact ⟨(x0_1.extract (t249 : Int).toNat x0_1.size), (wrap64 (x3_1 + 1)), (by first | rfl | (simp; done) | (simp [*]; done)), (by first | rfl | (simp; done) | (simp [*]; done)), H', ⟨by have := HK1.out; omega⟩, by repeat (first | exact Drawn0.refl _ | apply Drawn0.step)⟩
     ·rw [if_neg c5] at H
      exact absurd H (by simp)
    ·rw [if_neg c4] at H
     exact absurd H (by simp)
mutual
def r1_Right.j0 : Nat → ByteArray → Bool → Option (Bool)
 | 0, _, _ => none
 | k + 1, x0, x30 => if x30 = true then (some false) else (r1_Right.l0 k x0 0)
def r1_Right.l0 : Nat → ByteArray → Int → Option (Bool)
 | 0, _, _ => none
 | k + 1, x0, x4 => if x4 < (x0.size : Int) then (if 0 ≤ x4 then (if (bt x0 x4) < 32 then (some false) else (if (bt x0 x4) = 127 then (some false) else (r1_Right.l0 k x0 (wrap64 (x4 + 1))))) else (none)) else (some true)
end
def r1_Right.f (k : Nat) (a0 : ByteArray) : Option (Bool) := (r1_Valid.f k a0).bind fun t250 => (if t250 = true then (if a0.toList = ([] : List UInt8) then (r1_Right.j0 k a0 true) else ((r1_Count.f k a0).bind fun t251 => (if t251 > 24 then (r1_Right.j0 k a0 true) else (if 0 < (a0.size : Int) then (if (bt a0 0) = 32 then (r1_Right.j0 k a0 true) else (if 0 ≤ (wrap64 ((a0.size : Int) - 1)) then (if (wrap64 ((a0.size : Int) - 1)) < (a0.size : Int) then (r1_Right.j0 k a0 ((bt a0 (wrap64 ((a0.size : Int) - 1))) == 32)) else (none)) else (none))) else (none))))) else (r1_Right.j0 k a0 true))
theorem r1_Right.mono_l : ∀ k, (∀ y0 y1, LeO (r1_Right.j0 k y0 y1) (r1_Right.j0 (k + 1) y0 y1)) ∧ (∀ y0 y1, LeO (r1_Right.l0 k y0 y1) (r1_Right.l0 (k + 1) y0 y1))
 | 0 => ⟨fun _ _ r h => by simp [r1_Right.j0] at h, fun _ _ r h => by simp [r1_Right.l0] at h⟩
 | k + 1 => by
  obtain ⟨ih0, ih1⟩ := r1_Right.mono_l k
  refine ⟨?_, ?_⟩
  ·intro y0 y1
   unfold r1_Right.j0
   repeat' first
   | (with_reducible exact ih1 _ _)
   | (with_reducible exact LeO.refl _)
   | (with_reducible exact LeO.none _)
   | (with_reducible refine LeO.ite ?_ ?_)
   | (with_reducible refine LeO.bind ?_ (fun _ => ?_))
   | exact ih1 _ _
   | exact LeO.none _
   | refine LeO.ite ?_ ?_
   | refine LeO.bind ?_ (fun _ => ?_)
  ·intro y0 y1
   unfold r1_Right.l0
   repeat' first
   | (with_reducible exact ih1 _ _)
   | (with_reducible exact LeO.refl _)
   | (with_reducible exact LeO.none _)
   | (with_reducible refine LeO.ite ?_ ?_)
   | (with_reducible refine LeO.bind ?_ (fun _ => ?_))
   | exact ih1 _ _
   | exact LeO.none _
   | refine LeO.ite ?_ ?_
   | refine LeO.bind ?_ (fun _ => ?_)
theorem r1_Right.mono : ∀ a0 k, LeO (r1_Right.f k a0) (r1_Right.f (k + 1) a0) := by
 intro a0 k
 obtain ⟨ih0, ih1⟩ := r1_Right.mono_l k
 unfold r1_Right.f
 repeat' first
   | (with_reducible exact ih0 _ _)
   | (with_reducible exact ih1 _ _)
   | (with_reducible exact r1_Count.mono _ _)
   | (with_reducible exact r1_Valid.mono _ _)
   | (with_reducible exact LeO.refl _)
   | (with_reducible exact LeO.none _)
   | (with_reducible refine LeO.ite ?_ ?_)
   | (with_reducible refine LeO.bind ?_ (fun _ => ?_))
   | exact ih0 _ _
   | exact ih1 _ _
   | exact r1_Count.mono _ _
   | exact r1_Valid.mono _ _
   | exact LeO.none _
   | refine LeO.ite ?_ ?_
   | refine LeO.bind ?_ (fun _ => ?_)
set_option maxHeartbeats 8000000 in
set_option maxRecDepth 100000 in
theorem r1_Right.calls (k : Nat) (a0 : ByteArray) (r : Bool) (w : World) (h : r1_Right.f k a0 = some r) :
  Calls Tryd.prog 52 #[.string a0] w fun e w' => e = .returned (.bool r) ∧ Drawn0 w w' := by
 have H : ((r1_Valid.f k a0).bind fun t250 => (if t250 = true then (if a0.toList = ([] : List UInt8) then (r1_Right.j0 k a0 true) else ((r1_Count.f k a0).bind fun t251 => (if t251 > 24 then (r1_Right.j0 k a0 true) else (if 0 < (a0.size : Int) then (if (bt a0 0) = 32 then (r1_Right.j0 k a0 true) else (if 0 ≤ (wrap64 ((a0.size : Int) - 1)) then (if (wrap64 ((a0.size : Int) - 1)) < (a0.size : Int) then (r1_Right.j0 k a0 ((bt a0 (wrap64 ((a0.size : Int) - 1))) == 32)) else (none)) else (none))) else (none))))) else (r1_Right.j0 k a0 true))) = some r := h
 clear h
 replace H := Option.bind_eq_some_iff.mp H
 obtain ⟨t250, A20, H⟩ := H
 replace H : (if t250 = true then (if a0.toList = ([] : List UInt8) then (r1_Right.j0 k a0 true) else ((r1_Count.f k a0).bind fun t251 => (if t251 > 24 then (r1_Right.j0 k a0 true) else (if 0 < (a0.size : Int) then (if (bt a0 0) = 32 then (r1_Right.j0 k a0 true) else (if 0 ≤ (wrap64 ((a0.size : Int) - 1)) then (if (wrap64 ((a0.size : Int) - 1)) < (a0.size : Int) then (r1_Right.j0 k a0 ((bt a0 (wrap64 ((a0.size : Int) - 1))) == 32)) else (none)) else (none))) else (none))))) else (r1_Right.j0 k a0 true)) = some r := H
 have A2 := Ax.mk A20
 clear A20
 have HC3 := Ax.mk H
 clear H
 go_enter Tryd.func52, Tryd.ntmps52
 go_upto_region 2 with (first | ((with_reducible refine gate_callee (f := 70) rfl ?_); refine goesL_ (some 6) rfl rfl Tryd.func70 (by kernel_rfl) rfl #[.string a0] rfl (by (try simp only [List.map_toArray, List.map_cons, List.map_nil]); first | done | rfl | (simp only [List.length_drop, List.length_take]; rfl) | (rw [wrap_sum2 (by assumption)]; rfl)) ?_; (with_reducible refine (r1_Valid.calls k a0 t250 _ A2.out).mono ?_); rintro e w' ⟨rfl, ⟨nd, rfl⟩⟩; refine ⟨_, rfl, ?_⟩))
 (try simp only [Act.put, sI, sZ, sS])
 go_cut [30] (fun v30 wc => ∃ (kq : Nat) (x30_2 : Bool), v30 = .bool x30_2 ∧ Ax (r1_Right.j0 kq a0 x30_2 = some r) ∧ Ax (kq ≤ k) ∧ Drawn0 w wc)
 case first =>
  have H := HC3.out
  clear HC3
  by_cases c4 : t250 = true
  ·subst c4
   have H1 : (if a0.toList = ([] : List UInt8) then (r1_Right.j0 k a0 true) else ((r1_Count.f k a0).bind fun t251 => (if t251 > 24 then (r1_Right.j0 k a0 true) else (if 0 < (a0.size : Int) then (if (bt a0 0) = 32 then (r1_Right.j0 k a0 true) else (if 0 ≤ (wrap64 ((a0.size : Int) - 1)) then (if (wrap64 ((a0.size : Int) - 1)) < (a0.size : Int) then (r1_Right.j0 k a0 ((bt a0 (wrap64 ((a0.size : Int) - 1))) == 32)) else (none)) else (none))) else (none))))) = some r := by rw [if_pos rfl] at H; exact H
   clear H
   have H := H1
   clear H1
   by_cases c5 : a0.toList = ([] : List UInt8)
   ·rw [if_pos c5] at H
    have c5b0 : (a0.toList == ([] : List UInt8)) = true := beq_iff_eq.mpr c5
    have c5b1 : (a0.toList != ([] : List UInt8)) = false := bne_eq_false_iff_eq.mpr c5
    clear c5
    (first | rw [c5b0] | (simp only [i64_w, i32_w]; rw [c5b0]) | skip)
    have H' := Ax.mk H
    clear H
    go_wp2
    go_meet
    case rel => exact ⟨_, (true), (by first | rfl | (simp; done) | (simp [*]; done)), H', ⟨by first | omega | exact Nat.le_refl _⟩, by repeat (first | exact Drawn0.refl _ | apply Drawn0.step)⟩
   ·rw [if_neg c5] at H
    have c5b0 : (a0.toList == ([] : List UInt8)) = false := beq_eq_false_iff_ne.mpr c5
    have c5b1 : (a0.toList != ([] : List UInt8)) = true := bne_iff_ne.mpr c5
    (first | rw [c5b0] | (simp only [i64_w, i32_w]; rw [c5b0]) | skip)
    replace H := Option.bind_eq_some_iff.mp H
    obtain ⟨t251, A60, H⟩ := H
    replace H : (if t251 > 24 then (r1_Right.j0 k a0 true) else (if 0 < (a0.size : Int) then (if (bt a0 0) = 32 then (r1_Right.j0 k a0 true) else (if 0 ≤ (wrap64 ((a0.size : Int) - 1)) then (if (wrap64 ((a0.size : Int) - 1)) < (a0.size : Int) then (r1_Right.j0 k a0 ((bt a0 (wrap64 ((a0.size : Int) - 1))) == 32)) else (none)) else (none))) else (none))) = some r := H
    have A6 := Ax.mk A60
    clear A60
    by_cases c7 : t251 > 24
    ·rw [if_pos c7] at H
     have c7b0 : decide (24 < t251) = true := decide_eq_true c7
     clear c7
     have H' := Ax.mk H
     clear H
     go_wp2_with (first | (go_at_call 71; (with_reducible refine (r1_Count.calls k a0 t251 _ A6.out).mono ?_); rintro e w' ⟨rfl, ⟨nd, rfl⟩⟩))
     go_meet
     case rel => exact ⟨_, (true), (by first | rfl | (simp; done) | (simp [*]; done)), H', ⟨by first | omega | exact Nat.le_refl _⟩, by repeat (first | exact Drawn0.refl _ | apply Drawn0.step)⟩
    ·rw [if_neg c7] at H
     have c7b0 : decide (24 < t251) = false := decide_eq_false c7
     clear c7
     by_cases c8 : 0 < (a0.size : Int)
     ·rw [if_pos c8] at H
      have c8b0 : decide (0 < (a0.size : Int)) = true := decide_eq_true c8
      have c8b1 : decide (0 < a0.size) = true := decide_eq_true (by omega)
      clear c8
      by_cases c10 : (bt a0 0) = 32
      ·rw [if_pos c10] at H
       have c10b0 : ((bt a0 0) == 32) = true := beq_iff_eq.mpr c10
       have c10b1 : ((bt a0 0) != 32) = false := bne_eq_false_iff_eq.mpr c10
       clear c10
       have H' := Ax.mk H
       clear H
       go_wp2_with (first | (go_at_call 71; (with_reducible refine (r1_Count.calls k a0 t251 _ A6.out).mono ?_); rintro e w' ⟨rfl, ⟨nd, rfl⟩⟩; have p9 : 0 ≤ (0 : Int) := (by omega); have q9 : 0 < a0.size := (by have : (0 : Int) < (a0.size : Int) := ofD; omega); have hx9 : ∀ h : 0 < a0.size, ((a0[0]'h).toNat : Int) = bt a0 0 := bt_at a0 0; clear p9; have qi9 : (0 < (a0.size : Int)) = True := eq_true (ofD); replace q9 := eq_true q9))
       go_meet
       case rel => exact ⟨_, (true), (by first | rfl | (simp; done) | (simp [*]; done)), H', ⟨by first | omega | exact Nat.le_refl _⟩, by repeat (first | exact Drawn0.refl _ | apply Drawn0.step)⟩
      ·rw [if_neg c10] at H
       have c10b0 : ((bt a0 0) == 32) = false := beq_eq_false_iff_ne.mpr c10
       have c10b1 : ((bt a0 0) != 32) = true := bne_iff_ne.mpr c10
       obtain ⟨ji11, hji11⟩ : ∃ j_ : Int, (wrap64 ((a0.size : Int) - 1)) = j_ := ⟨_, rfl⟩
       replace H : (if 0 ≤ (ji11) then (if (ji11) < (a0.size : Int) then (r1_Right.j0 k a0 ((bt a0 (ji11)) == 32)) else (none)) else (none)) = some r := by first | (rw [hji11] at H; exact H) | (simp only [hji11] at H ⊢; exact H)
       (try rw [hji11] at A6)
       have hji11w : (IntKind.i64.wrap ((a0.size : Int) - 1)) = ji11 := (i64_w _).trans hji11
       by_cases c12 : 0 ≤ (ji11)
       ·rw [if_pos c12] at H
        have c12b0 : decide (0 ≤ (ji11)) = true := decide_eq_true c12
        clear c12
        by_cases c13 : (ji11) < (a0.size : Int)
        ·rw [if_pos c13] at H
         have c13b0 : decide ((ji11) < (a0.size : Int)) = true := decide_eq_true c13
         clear c13
         have H' := Ax.mk H
         clear H
         go_wp2_with (first | (go_at_call 71; (with_reducible refine (r1_Count.calls k a0 t251 _ A6.out).mono ?_); rintro e w' ⟨rfl, ⟨nd, rfl⟩⟩; have p9 : 0 ≤ (0 : Int) := (by omega); have q9 : 0 < a0.size := (by have : (0 : Int) < (a0.size : Int) := ofD; omega); have hx9 : ∀ h : 0 < a0.size, ((a0[0]'h).toNat : Int) = bt a0 0 := bt_at a0 0; clear p9; have qi9 : (0 < (a0.size : Int)) = True := eq_true (ofD); replace q9 := eq_true q9; have p14 : 0 ≤ ((ji11) : Int) := ofD; have q14 : (ji11) < (a0.size : Int) := ofD; have hx14 := bt_at a0 (ji11); replace p14 := eq_true p14; replace q14 := eq_true q14))
         go_meet
         case rel => exact ⟨_, (((bt a0 (ji11)) == 32)), (by first | rfl | (simp; done) | (simp only [← hji11] <;> (first | rfl | simp)) | (simp [*]; done)), H', ⟨by first | omega | exact Nat.le_refl _⟩, by repeat (first | exact Drawn0.refl _ | apply Drawn0.step)⟩
        ·rw [if_neg c13] at H
         exact absurd H (by simp)
       ·rw [if_neg c12] at H
        exact absurd H (by simp)
     ·rw [if_neg c8] at H
      exact absurd H (by simp)
  ·replace c4 := Bool.eq_false_iff.mpr c4
   subst c4
   have H1 : (r1_Right.j0 k a0 true) = some r := by rw [if_neg (show ¬ (false = true) by decide)] at H; exact H
   clear H
   have H := H1
   clear H1
   have H' := Ax.mk H
   clear H
   go_wp2
   go_meet
   case rel => exact ⟨_, (true), (by first | rfl | (simp; done) | (simp [*]; done)), H', ⟨by first | omega | exact Nat.le_refl _⟩, by repeat (first | exact Drawn0.refl _ | apply Drawn0.step)⟩
 case rest =>
  clear HC3
  try clear c1
  try clear p1
  try clear q1
  try clear hx1
  try clear p2
  try clear c4
  try clear c5
  try clear c5b0
  try clear c5b1
  try clear p6
  try clear c7
  try clear c7b0
  try clear c8
  try clear c8b0
  try clear c8b1
  try clear p9
  try clear q9
  try clear hx9
  try clear qi9
  try clear c10
  try clear c10b0
  try clear c10b1
  try clear c12
  try clear c12b0
  try clear c13
  try clear c13b0
  try clear p14
  try clear q14
  try clear hx14
  try clear p14
  try clear p9
  try clear q14
  try clear q9
  obtain ⟨kq, x30_2, rfl, HA, HJ2, ⟨mc2, rfl⟩⟩ := hcut
  cases kq with
  | zero => exact absurd HA.out (by simp [r1_Right.j0])
  | succ kj2 =>
   have H := HA.out
   clear HA
   simp only [r1_Right.j0] at H
   by_cases c15 : x30_2 = true
   ·subst c15
    have H1 : (some false) = some r := by rw [if_pos rfl] at H; exact H
    clear H
    have H := H1
    clear H1
    obtain rfl := Option.some.inj H
    go_wp2
    go_ret
    exact ⟨by first | rfl | (simp; done) | (simp [*]; done), by repeat (first | exact Drawn0.refl _ | apply Drawn0.step)⟩
   ·replace c15 := Bool.eq_false_iff.mpr c15
    subst c15
    have H1 : (r1_Right.l0 kj2 a0 0) = some r := by rw [if_neg (show ¬ (false = true) by decide)] at H; exact H
    clear H
    have H := H1
    clear H1
    have H' := Ax.mk H
    clear H
    go_wp2
    go_loopg [4] kj2 (fun kq v4 w' => ∃ (x4_2 : Int), v4 = .int .i64 x4_2 ∧ Ax (r1_Right.l0 kq a0 x4_2 = some r) ∧ Ax (kq ≤ kj2) ∧ Drawn0 w w')
    case atStart => exact ⟨(0), (by first | rfl | (simp; done) | (simp [*]; done)), H', ⟨Nat.le_refl _⟩, by repeat (first | exact Drawn0.refl _ | apply Drawn0.step)⟩
    case round =>
     clear H'
     try clear c1
     try clear p1
     try clear q1
     try clear hx1
     try clear c2
     try clear p2
     try clear c4
     try clear c5
     try clear c5b0
     try clear c5b1
     try clear p6
     try clear c7
     try clear c7b0
     try clear c8
     try clear c8b0
     try clear c8b1
     try clear p9
     try clear q9
     try clear hx9
     try clear qi9
     try clear c10
     try clear c10b0
     try clear c10b1
     try clear c12
     try clear c12b0
     try clear c13
     try clear c13b0
     try clear p14
     try clear q14
     try clear hx14
     try clear c15
     try clear p1
     try clear p14
     try clear p2
     try clear p6
     try clear p9
     try clear q1
     try clear q14
     try clear q9
     obtain ⟨x4_2, rfl, HA, HK2, ⟨m2, rfl⟩⟩ := hrel
     cases gk with
     | zero => exact absurd HA.out (by simp [r1_Right.l0])
     | succ k2 =>
      have H := HA.out
      clear HA
      simp only [r1_Right.l0] at H
      by_cases c16 : x4_2 < (a0.size : Int)
      ·rw [if_pos c16] at H
       have c16b0 : decide (x4_2 < (a0.size : Int)) = true := decide_eq_true c16
       clear c16
       by_cases c17 : 0 ≤ x4_2
       ·rw [if_pos c17] at H
        have c17b0 : decide (0 ≤ x4_2) = true := decide_eq_true c17
        clear c17
        by_cases c19 : (bt a0 x4_2) < 32
        ·rw [if_pos c19] at H
         have c19b0 : decide ((bt a0 x4_2) < 32) = true := decide_eq_true c19
         clear c19
         obtain rfl := Option.some.inj H
         have p18 : 0 ≤ (x4_2 : Int) := ofD
         have q18 : x4_2 < (a0.size : Int) := ofD
         have hx18 := bt_at a0 x4_2
         replace p18 := eq_true p18
         replace q18 := eq_true q18
         go_wp2
         go_ret
         exact ⟨by first | rfl | (simp; done) | (simp [*]; done), by repeat (first | exact Drawn0.refl _ | apply Drawn0.step)⟩
        ·rw [if_neg c19] at H
         have c19b0 : decide ((bt a0 x4_2) < 32) = false := decide_eq_false c19
         clear c19
         by_cases c21 : (bt a0 x4_2) = 127
         ·rw [if_pos c21] at H
          have c21b0 : ((bt a0 x4_2) == 127) = true := beq_iff_eq.mpr c21
          have c21b1 : ((bt a0 x4_2) != 127) = false := bne_eq_false_iff_eq.mpr c21
          clear c21
          obtain rfl := Option.some.inj H
          have p18 : 0 ≤ (x4_2 : Int) := ofD
          have q18 : x4_2 < (a0.size : Int) := ofD
          have hx18 := bt_at a0 x4_2
          replace p18 := eq_true p18
          replace q18 := eq_true q18
          have p20 : 0 ≤ (x4_2 : Int) := ofD
          have q20 : x4_2 < (a0.size : Int) := ofD
          have hx20 := bt_at a0 x4_2
          replace p20 := eq_true p20
          replace q20 := eq_true q20
          go_wp2
          go_ret
          exact ⟨by first | rfl | (simp; done) | (simp [*]; done), by repeat (first | exact Drawn0.refl _ | apply Drawn0.step)⟩
         ·rw [if_neg c21] at H
          have c21b0 : ((bt a0 x4_2) == 127) = false := beq_eq_false_iff_ne.mpr c21
          have c21b1 : ((bt a0 x4_2) != 127) = true := bne_iff_ne.mpr c21
          have H' := Ax.mk H
          clear H
          have p18 : 0 ≤ (x4_2 : Int) := ofD
          have q18 : x4_2 < (a0.size : Int) := ofD
          have hx18 := bt_at a0 x4_2
          replace p18 := eq_true p18
          replace q18 := eq_true q18
          have p20 : 0 ≤ (x4_2 : Int) := ofD
          have q20 : x4_2 < (a0.size : Int) := ofD
          have hx20 := bt_at a0 x4_2
          replace p20 := eq_true p20
          replace q20 := eq_true q20
          go_wp2
          go_roundg k2
          case measure => have := HJ2.out; have := HK2.out; omega
          case rel => exact ⟨(wrap64 (x4_2 + 1)), (by first | rfl | (simp; done) | (simp [*]; done)), H', ⟨by have := HJ2.out; have := HK2.out; omega⟩, by repeat (first | exact Drawn0.refl _ | apply Drawn0.step)⟩
       ·rw [if_neg c17] at H
        exact absurd H (by simp)
      ·rw [if_neg c16] at H
       have c16b0 : decide (x4_2 < (a0.size : Int)) = false := decide_eq_false c16
       clear c16
       obtain rfl := Option.some.inj H
       go_wp2
       go_ret
       exact ⟨by first | rfl | (simp; done) | (simp [*]; done), by repeat (first | exact Drawn0.refl _ | apply Drawn0.step)⟩
def step_number.f (a0 : Int) : Option (Bool) := if a0 ≥ 0 then (some (decide (a0 ≤ 2147483647))) else (some false)
set_option maxHeartbeats 8000000 in
set_option maxRecDepth 100000 in
theorem step_number.calls (a0 : Int) (r : Bool) (w : World) (h : step_number.f a0 = some r) :
  Calls Tryd.prog 51 #[.int .i64 a0] w fun e w' => e = .returned (.bool r) ∧ Drawn0 w w' := by
 have H : (if a0 ≥ 0 then (some (decide (a0 ≤ 2147483647))) else (some false)) = some r := h
 clear h
 by_cases c2 : a0 ≥ 0
 ·rw [if_pos c2] at H
  have c2b0 : decide (0 ≤ a0) = true := decide_eq_true c2
  clear c2
  obtain rfl := Option.some.inj H
  go_enter Tryd.func51, Tryd.ntmps51
  go_wp2
  go_ret
  exact ⟨by first | rfl | (simp; done) | (simp [*]; done), by repeat (first | exact Drawn0.refl _ | apply Drawn0.step)⟩
 ·rw [if_neg c2] at H
  have c2b0 : decide (0 ≤ a0) = false := decide_eq_false c2
  clear c2
  obtain rfl := Option.some.inj H
  go_enter Tryd.func51, Tryd.ntmps51
  go_wp2
  go_ret
  exact ⟨by first | rfl | (simp; done) | (simp [*]; done), by repeat (first | exact Drawn0.refl _ | apply Drawn0.step)⟩
def step_Right.j0 : Nat → Bool → Int → Int → Int → Int → ByteArray → Option (Bool)
 | 0, _, _, _, _, _, _ => none
 | k + 1, x16, x108000, x108001, x108002, x108003, x108004 => if x16 = true then (some false) else (if x108000 ≥ 1 then (if x108000 ≤ 8 then ((step_number.f x108001).bind fun t109 => (if t109 = true then ((step_number.f x108002).bind fun t110 => (some t110)) else (some false))) else (some false)) else (some false))
def step_Right.f (k : Nat) (a0_0 : Int) (a0_1 : Int) (a0_2 : Int) (a0_3 : Int) (a0_4 : ByteArray) : Option (Bool) := if a0_4.toList = ([] : List UInt8) then (step_Right.j0 k false a0_0 a0_1 a0_2 a0_3 a0_4) else (if a0_0 = 1 then ((label_Right.f a0_4).bind fun t108 => (step_Right.j0 k (!t108) a0_0 a0_1 a0_2 a0_3 a0_4)) else (step_Right.j0 k true a0_0 a0_1 a0_2 a0_3 a0_4))
theorem step_Right.mono_l : ∀ k, (∀ y0 y1 y2 y3 y4 y5, LeO (step_Right.j0 k y0 y1 y2 y3 y4 y5) (step_Right.j0 (k + 1) y0 y1 y2 y3 y4 y5))
 | 0 => fun _ _ _ _ _ _ r h => by simp [step_Right.j0] at h
 | k + 1 => by
  have ih0 := step_Right.mono_l k
  ·intro y0 y1 y2 y3 y4 y5
   unfold step_Right.j0
   repeat' first
   | (with_reducible exact LeO.refl _)
   | (with_reducible exact LeO.none _)
   | (with_reducible refine LeO.ite ?_ ?_)
   | (with_reducible refine LeO.bind ?_ (fun _ => ?_))
   | exact LeO.none _
   | refine LeO.ite ?_ ?_
   | refine LeO.bind ?_ (fun _ => ?_)
theorem step_Right.mono : ∀ a0 a1 a2 a3 a4 k, LeO (step_Right.f k a0 a1 a2 a3 a4) (step_Right.f (k + 1) a0 a1 a2 a3 a4) := by
 intro a0 a1 a2 a3 a4 k
 have ih0 := step_Right.mono_l k
 unfold step_Right.f
 repeat' first
   | (with_reducible exact ih0 _ _ _ _ _ _)
   | (with_reducible exact LeO.refl _)
   | (with_reducible exact LeO.none _)
   | (with_reducible refine LeO.ite ?_ ?_)
   | (with_reducible refine LeO.bind ?_ (fun _ => ?_))
   | exact ih0 _ _ _ _ _ _
   | exact LeO.none _
   | refine LeO.ite ?_ ?_
   | refine LeO.bind ?_ (fun _ => ?_)
set_option maxHeartbeats 8000000 in
set_option maxRecDepth 100000 in
theorem step_Right.calls (k : Nat) (a0_0 : Int) (a0_1 : Int) (a0_2 : Int) (a0_3 : Int) (a0_4 : ByteArray) (r : Bool) (w : World) (h : step_Right.f k a0_0 a0_1 a0_2 a0_3 a0_4 = some r) (HT : Tabs w) :
  Calls Tryd.prog 21 #[.agg #[.int .i64 a0_0, .int .i64 a0_1, .int .i64 a0_2, .int .u64 a0_3, .string a0_4]] w fun e w' => e = .returned (.bool r) ∧ Below w.heap.size w w' := by
 have hu24 := Tryd.underlying24
 have HB := Ax.mk (Below.refl w.heap.size w)
 have H : (if a0_4.toList = ([] : List UInt8) then (step_Right.j0 k false a0_0 a0_1 a0_2 a0_3 a0_4) else (if a0_0 = 1 then ((label_Right.f a0_4).bind fun t108 => (step_Right.j0 k (!t108) a0_0 a0_1 a0_2 a0_3 a0_4)) else (step_Right.j0 k true a0_0 a0_1 a0_2 a0_3 a0_4))) = some r := h
 clear h
 have HC2 := Ax.mk H
 clear H
 go_enter Tryd.func21, Tryd.ntmps21
 go_upto_region 1 with (first | ((with_reducible refine gate_dst (N := 1) rfl ?_); refine box_event ?hg (N := 1) ?hd (cs := #[.int .i64 a0_0, .int .i64 a0_1, .int .i64 a0_2, .int .u64 a0_3, .string a0_4]) (t := 24) ?hr ?_; (case hd => rfl); (case hg => rfl); (case hr => first | (go_simp; done) | (go_simp; rfl)); intro gb107 hg w3 hbox hb; have n0_ := Ax.mk (bP bA hb); have n1_ := Ax.mk (hbox); have n2_ := Ax.mk ((ge_new hg : w.heap.size ≤ gb107)); have n3_ := n2_; clear HB; have HB := n0_; have BK107 := n1_; have GW107 := n2_; have GE107 := n3_; clear n0_ n1_ n2_ n3_; clear hb hbox hg))
 (try simp only [Act.put, sI, sZ, sS])
 go_cut [16] (fun v16 wc => ∃ (kq : Nat) (x16_1 : Bool), v16 = .bool x16_1 ∧ Ax (step_Right.j0 kq x16_1 a0_0 a0_1 a0_2 a0_3 a0_4 = some r) ∧ Ax (kq ≤ k) ∧ Ax (wc.heap[gb107]? = some (.cells #[.int .i64 a0_0, .int .i64 a0_1, .int .i64 a0_2, .int .u64 a0_3, .string a0_4] 24 (0, 0))) ∧ Ax (Below w.heap.size w wc))
 case first =>
  have H := HC2.out
  clear HC2
  by_cases c4 : a0_4.toList = ([] : List UInt8)
  ·rw [if_pos c4] at H
   have c4b0 : (a0_4.toList == ([] : List UInt8)) = true := beq_iff_eq.mpr c4
   have c4b1 : (a0_4.toList != ([] : List UInt8)) = false := bne_eq_false_iff_eq.mpr c4
   clear c4
   (first | rw [c4b0] | (simp only [i64_w, i32_w]; rw [c4b0]) | skip)
   have H' := Ax.mk H
   clear H
   have hcz5_0 : w3.cell? ⟨gb107, 0, none⟩ = some (.int .i64 a0_0) := (bC BK107.out 0).trans rfl
   have hcz5_1 : w3.cell? ⟨gb107, 1, none⟩ = some (.int .i64 a0_1) := (bC BK107.out 1).trans rfl
   have hcz5_2 : w3.cell? ⟨gb107, 2, none⟩ = some (.int .i64 a0_2) := (bC BK107.out 2).trans rfl
   have hcz5_3 : w3.cell? ⟨gb107, 3, none⟩ = some (.int .u64 a0_3) := (bC BK107.out 3).trans rfl
   have hcz5_4 : w3.cell? ⟨gb107, 4, none⟩ = some (.string a0_4) := (bC BK107.out 4).trans rfl
   have hfz5_0 := bF BK107.out 0
   have hfz5_1 := bF BK107.out 1
   have hfz5_2 := bF BK107.out 2
   have hfz5_3 := bF BK107.out 3
   have hfz5_4 := bF BK107.out 4
   go_wp2
   go_meet
   case rel => exact ⟨_, (false), (by first | rfl | (simp; done) | (simp [*]; done)), H', ⟨by first | omega | exact Nat.le_refl _⟩, ⟨by refine bT ?_; exact BK107.out⟩, ⟨bA⟩⟩
  ·rw [if_neg c4] at H
   have c4b0 : (a0_4.toList == ([] : List UInt8)) = false := beq_eq_false_iff_ne.mpr c4
   have c4b1 : (a0_4.toList != ([] : List UInt8)) = true := bne_iff_ne.mpr c4
   (first | rw [c4b0] | (simp only [i64_w, i32_w]; rw [c4b0]) | skip)
   by_cases c6 : a0_0 = 1
   ·rw [if_pos c6] at H
    have c6b0 : (a0_0 == 1) = true := beq_iff_eq.mpr c6
    have c6b1 : (a0_0 != 1) = false := bne_eq_false_iff_eq.mpr c6
    clear c6
    replace H := Option.bind_eq_some_iff.mp H
    obtain ⟨t108, A70, H⟩ := H
    replace H : (step_Right.j0 k (!t108) a0_0 a0_1 a0_2 a0_3 a0_4) = some r := H
    have A7 := Ax.mk A70
    clear A70
    have H' := Ax.mk H
    clear H
    have hcz8_0 : w3.cell? ⟨gb107, 0, none⟩ = some (.int .i64 a0_0) := (bC BK107.out 0).trans rfl
    have hcz8_1 : w3.cell? ⟨gb107, 1, none⟩ = some (.int .i64 a0_1) := (bC BK107.out 1).trans rfl
    have hcz8_2 : w3.cell? ⟨gb107, 2, none⟩ = some (.int .i64 a0_2) := (bC BK107.out 2).trans rfl
    have hcz8_3 : w3.cell? ⟨gb107, 3, none⟩ = some (.int .u64 a0_3) := (bC BK107.out 3).trans rfl
    have hcz8_4 : w3.cell? ⟨gb107, 4, none⟩ = some (.string a0_4) := (bC BK107.out 4).trans rfl
    have hfz8_0 := bF BK107.out 0
    have hfz8_1 := bF BK107.out 1
    have hfz8_2 := bF BK107.out 2
    have hfz8_3 := bF BK107.out 3
    have hfz8_4 := bF BK107.out 4
    go_wp2_with (first | (go_at_call 50; (with_reducible refine (label_Right.calls a0_4 t108 _ A7.out (HT.below bA)).mono ?_); rintro e w9 ⟨rfl, hb⟩; have n0_ := Ax.mk (bB (bT BK107.out) hb); have n1_ := Ax.mk (bP bA hb); clear BK107; clear HB; have BK107 := n0_; have HB := n1_; clear n0_ n1_; (try clear hb); (try clear hb2); (try clear hk); (try clear hi)))
    go_meet
    case rel => exact ⟨_, (!t108), (by first | rfl | (simp; done) | (simp [*]; done)), H', ⟨by first | omega | exact Nat.le_refl _⟩, ⟨by refine bT ?_; exact BK107.out⟩, ⟨bA⟩⟩
   ·rw [if_neg c6] at H
    have c6b0 : (a0_0 == 1) = false := beq_eq_false_iff_ne.mpr c6
    have c6b1 : (a0_0 != 1) = true := bne_iff_ne.mpr c6
    have H' := Ax.mk H
    clear H
    have hcz10_0 : w3.cell? ⟨gb107, 0, none⟩ = some (.int .i64 a0_0) := (bC BK107.out 0).trans rfl
    have hcz10_1 : w3.cell? ⟨gb107, 1, none⟩ = some (.int .i64 a0_1) := (bC BK107.out 1).trans rfl
    have hcz10_2 : w3.cell? ⟨gb107, 2, none⟩ = some (.int .i64 a0_2) := (bC BK107.out 2).trans rfl
    have hcz10_3 : w3.cell? ⟨gb107, 3, none⟩ = some (.int .u64 a0_3) := (bC BK107.out 3).trans rfl
    have hcz10_4 : w3.cell? ⟨gb107, 4, none⟩ = some (.string a0_4) := (bC BK107.out 4).trans rfl
    have hfz10_0 := bF BK107.out 0
    have hfz10_1 := bF BK107.out 1
    have hfz10_2 := bF BK107.out 2
    have hfz10_3 := bF BK107.out 3
    have hfz10_4 := bF BK107.out 4
    go_wp2
    go_meet
    case rel => exact ⟨_, (true), (by first | rfl | (simp; done) | (simp [*]; done)), H', ⟨by first | omega | exact Nat.le_refl _⟩, ⟨by refine bT ?_; exact BK107.out⟩, ⟨bA⟩⟩
 case rest =>
  clear HC2
  try clear c2
  try clear p2
  try clear c4
  try clear c4b0
  try clear c4b1
  try clear c6
  try clear c6b0
  try clear c6b1
  try clear hcz10_0
  try clear hcz10_1
  try clear hcz10_2
  try clear hcz10_3
  try clear hcz10_4
  try clear hcz5_0
  try clear hcz5_1
  try clear hcz5_2
  try clear hcz5_3
  try clear hcz5_4
  try clear hcz8_0
  try clear hcz8_1
  try clear hcz8_2
  try clear hcz8_3
  try clear hcz8_4
  try clear hfz10_0
  try clear hfz10_1
  try clear hfz10_2
  try clear hfz10_3
  try clear hfz10_4
  try clear hfz5_0
  try clear hfz5_1
  try clear hfz5_2
  try clear hfz5_3
  try clear hfz5_4
  try clear hfz8_0
  try clear hfz8_1
  try clear hfz8_2
  try clear hfz8_3
  try clear hfz8_4
  obtain ⟨kq, x16_1, rfl, HA, HJ1, BK107, HB⟩ := hcut
  cases kq with
  | zero => exact absurd HA.out (by simp [step_Right.j0])
  | succ kj1 =>
   have H := HA.out
   clear HA
   simp only [step_Right.j0] at H
   by_cases c11 : x16_1 = true
   ·subst c11
    have H1 : (some false) = some r := by rw [if_pos rfl] at H; exact H
    clear H
    have H := H1
    clear H1
    obtain rfl := Option.some.inj H
    go_wp2
    go_ret
    exact ⟨by first | rfl | (simp [errW_none, errW_some] <;> rfl) | (simp [*, errW_none, errW_some] <;> rfl), bA⟩
   ·replace c11 := Bool.eq_false_iff.mpr c11
    subst c11
    have H1 : (if a0_0 ≥ 1 then (if a0_0 ≤ 8 then ((step_number.f a0_1).bind fun t109 => (if t109 = true then ((step_number.f a0_2).bind fun t110 => (some t110)) else (some false))) else (some false)) else (some false)) = some r := by rw [if_neg (show ¬ (false = true) by decide)] at H; exact H
    clear H
    have H := H1
    clear H1
    by_cases c12 : a0_0 ≥ 1
    ·rw [if_pos c12] at H
     have c12b0 : decide (1 ≤ a0_0) = true := decide_eq_true c12
     clear c12
     by_cases c13 : a0_0 ≤ 8
     ·rw [if_pos c13] at H
      have c13b0 : decide (a0_0 ≤ 8) = true := decide_eq_true c13
      clear c13
      replace H := Option.bind_eq_some_iff.mp H
      obtain ⟨t109, A140, H⟩ := H
      replace H : (if t109 = true then ((step_number.f a0_2).bind fun t110 => (some t110)) else (some false)) = some r := H
      have A14 := Ax.mk A140
      clear A140
      by_cases c15 : t109 = true
      ·subst c15
       have H1 : ((step_number.f a0_2).bind fun t110 => (some t110)) = some r := by rw [if_pos rfl] at H; exact H
       clear H
       have H := H1
       clear H1
       replace H := Option.bind_eq_some_iff.mp H
       obtain ⟨t110, A160, H⟩ := H
       replace H : (some t110) = some r := H
       have A16 := Ax.mk A160
       clear A160
       obtain rfl := Option.some.inj H
       have hcz17_0 : wc.cell? ⟨gb107, 0, none⟩ = some (.int .i64 a0_0) := (bC BK107.out 0).trans rfl
       have hcz17_1 : wc.cell? ⟨gb107, 1, none⟩ = some (.int .i64 a0_1) := (bC BK107.out 1).trans rfl
       have hcz17_2 : wc.cell? ⟨gb107, 2, none⟩ = some (.int .i64 a0_2) := (bC BK107.out 2).trans rfl
       have hcz17_3 : wc.cell? ⟨gb107, 3, none⟩ = some (.int .u64 a0_3) := (bC BK107.out 3).trans rfl
       have hcz17_4 : wc.cell? ⟨gb107, 4, none⟩ = some (.string a0_4) := (bC BK107.out 4).trans rfl
       have hfz17_0 := bF BK107.out 0
       have hfz17_1 := bF BK107.out 1
       have hfz17_2 := bF BK107.out 2
       have hfz17_3 := bF BK107.out 3
       have hfz17_4 := bF BK107.out 4
       go_wp2_with (first | (go_at_call 51; (with_reducible refine (step_number.calls a0_1 true _ A14.out).mono ?_); rintro e w' ⟨rfl, ⟨nd, rfl⟩⟩) | (go_at_call 51; (with_reducible refine (step_number.calls a0_2 t110 _ A16.out).mono ?_); rintro e w' ⟨rfl, ⟨nd, rfl⟩⟩))
       go_ret
       exact ⟨by first | rfl | (simp [errW_none, errW_some] <;> rfl) | (simp [*, errW_none, errW_some] <;> rfl), bA⟩
      ·replace c15 := Bool.eq_false_iff.mpr c15
       subst c15
       have H1 : (some false) = some r := by rw [if_neg (show ¬ (false = true) by decide)] at H; exact H
       clear H
       have H := H1
       clear H1
       obtain rfl := Option.some.inj H
       have hcz18_0 : wc.cell? ⟨gb107, 0, none⟩ = some (.int .i64 a0_0) := (bC BK107.out 0).trans rfl
       have hcz18_1 : wc.cell? ⟨gb107, 1, none⟩ = some (.int .i64 a0_1) := (bC BK107.out 1).trans rfl
       have hcz18_2 : wc.cell? ⟨gb107, 2, none⟩ = some (.int .i64 a0_2) := (bC BK107.out 2).trans rfl
       have hcz18_3 : wc.cell? ⟨gb107, 3, none⟩ = some (.int .u64 a0_3) := (bC BK107.out 3).trans rfl
       have hcz18_4 : wc.cell? ⟨gb107, 4, none⟩ = some (.string a0_4) := (bC BK107.out 4).trans rfl
       have hfz18_0 := bF BK107.out 0
       have hfz18_1 := bF BK107.out 1
       have hfz18_2 := bF BK107.out 2
       have hfz18_3 := bF BK107.out 3
       have hfz18_4 := bF BK107.out 4
       go_wp2_with (first | (go_at_call 51; (with_reducible refine (step_number.calls a0_1 false _ A14.out).mono ?_); rintro e w' ⟨rfl, ⟨nd, rfl⟩⟩))
       go_ret
       exact ⟨by first | rfl | (simp [errW_none, errW_some] <;> rfl) | (simp [*, errW_none, errW_some] <;> rfl), bA⟩
     ·rw [if_neg c13] at H
      have c13b0 : decide (a0_0 ≤ 8) = false := decide_eq_false c13
      clear c13
      obtain rfl := Option.some.inj H
      have hcz19_0 : wc.cell? ⟨gb107, 0, none⟩ = some (.int .i64 a0_0) := (bC BK107.out 0).trans rfl
      have hcz19_1 : wc.cell? ⟨gb107, 1, none⟩ = some (.int .i64 a0_1) := (bC BK107.out 1).trans rfl
      have hcz19_2 : wc.cell? ⟨gb107, 2, none⟩ = some (.int .i64 a0_2) := (bC BK107.out 2).trans rfl
      have hcz19_3 : wc.cell? ⟨gb107, 3, none⟩ = some (.int .u64 a0_3) := (bC BK107.out 3).trans rfl
      have hcz19_4 : wc.cell? ⟨gb107, 4, none⟩ = some (.string a0_4) := (bC BK107.out 4).trans rfl
      have hfz19_0 := bF BK107.out 0
      have hfz19_1 := bF BK107.out 1
      have hfz19_2 := bF BK107.out 2
      have hfz19_3 := bF BK107.out 3
      have hfz19_4 := bF BK107.out 4
      go_wp2
      go_ret
      exact ⟨by first | rfl | (simp [errW_none, errW_some] <;> rfl) | (simp [*, errW_none, errW_some] <;> rfl), bA⟩
    ·rw [if_neg c12] at H
     have c12b0 : decide (1 ≤ a0_0) = false := decide_eq_false c12
     clear c12
     obtain rfl := Option.some.inj H
     have hcz20_0 : wc.cell? ⟨gb107, 0, none⟩ = some (.int .i64 a0_0) := (bC BK107.out 0).trans rfl
     have hcz20_1 : wc.cell? ⟨gb107, 1, none⟩ = some (.int .i64 a0_1) := (bC BK107.out 1).trans rfl
     have hcz20_2 : wc.cell? ⟨gb107, 2, none⟩ = some (.int .i64 a0_2) := (bC BK107.out 2).trans rfl
     have hcz20_3 : wc.cell? ⟨gb107, 3, none⟩ = some (.int .u64 a0_3) := (bC BK107.out 3).trans rfl
     have hcz20_4 : wc.cell? ⟨gb107, 4, none⟩ = some (.string a0_4) := (bC BK107.out 4).trans rfl
     have hfz20_0 := bF BK107.out 0
     have hfz20_1 := bF BK107.out 1
     have hfz20_2 := bF BK107.out 2
     have hfz20_3 := bF BK107.out 3
     have hfz20_4 := bF BK107.out 4
     go_wp2
     go_ret
     exact ⟨by first | rfl | (simp [errW_none, errW_some] <;> rfl) | (simp [*, errW_none, errW_some] <;> rfl), bA⟩
def step_Put.f (k : Nat) (a0_0 : Int) (a0_1 : Int) (a0_2 : Int) (a0_3 : Int) (a0_4 : ByteArray) : Option (ByteArray × Int) := (step_Right.f k a0_0 a0_1 a0_2 a0_3 a0_4).bind fun t114 => (if t114 = true then ((le_Put.f (IntKind.u64.wrap (a0_0)) 1).bind fun t115 => ((le_Put.f (IntKind.u64.wrap (a0_1)) 4).bind fun t116 => (if t115.size + t116.size ≤ 9223372036854775807 then ((le_Put.f (IntKind.u64.wrap (a0_2)) 4).bind fun t117 => (if t115.size + t116.size + t117.size ≤ 9223372036854775807 then ((le_Put.f a0_3 8).bind fun t118 => (if t115.size + t116.size + t117.size + t118.size ≤ 9223372036854775807 then (if t115.size + t116.size + t117.size + t118.size + a0_4.size ≤ 9223372036854775807 then ((seal_Put.f ((((t115 ++ t116) ++ t117) ++ t118) ++ a0_4)).bind fun t119 => ((le_Put.f (IntKind.u64.wrap ((t119.size : Int))) 2).bind fun t120 => (if t120.size + t119.size ≤ 9223372036854775807 then (some (t120 ++ t119, 0)) else (none)))) else (none)) else (none))) else (none))) else (none)))) else (some ((⟨#[]⟩ : ByteArray), 1)))
theorem step_Put.mono : ∀ a0 a1 a2 a3 a4 k, LeO (step_Put.f k a0 a1 a2 a3 a4) (step_Put.f (k + 1) a0 a1 a2 a3 a4) := by
 intro a0 a1 a2 a3 a4 k
 unfold step_Put.f
 repeat' first
   | (with_reducible exact step_Right.mono _ _ _ _ _ _)
   | (with_reducible exact LeO.refl _)
   | (with_reducible exact LeO.none _)
   | (with_reducible refine LeO.ite ?_ ?_)
   | (with_reducible refine LeO.bind ?_ (fun _ => ?_))
   | exact step_Right.mono _ _ _ _ _ _
   | exact LeO.none _
   | refine LeO.ite ?_ ?_
   | refine LeO.bind ?_ (fun _ => ?_)
def step_Put.T3 : Bool × List (List Nat × List Nat) := (true, [([], []), ([0], [0]), ([1], [1]), ([2], [2]), ([], []), ([4], [4]), ([5], [5]), ([6, 3], [6]), ([3, 7], [3, 7]), ([], []), ([9], [9]), ([10], [10]), ([11, 7], [11]), ([8, 12], [8, 12]), ([], []), ([14], [14]), ([15, 12], [15]), ([13, 16], [13, 16]), ([], []), ([18], [18]), ([17, 19], [17, 19]), ([20, 16], [20]), ([21, 21, 0, 1, 2, 3, 4, 5, 6, 7, 8, 9, 10, 11, 12, 13, 14, 15, 16, 17, 18, 19, 20, 21], [21])])
def step_Put.B3 : List Nat := [0, 1, 3, 7, 0, 16, 48, 127, 255, 0, 512, 1536, 3839, 8191, 0, 16384, 57087, 131071, 0, 262144, 1048575, 2097151, 4194303]
theorem step_Put.tab3 : rtab .any (opsOf Tryd.f19 3) = step_Put.T3 := by kernel_rfl
theorem step_Put.bits3 : waitsOk step_Put.T3.2 step_Put.B3 = true := by kernel_rfl
set_option maxHeartbeats 8000000 in
set_option maxRecDepth 100000 in
theorem step_Put.calls (k : Nat) (a0_0 : Int) (a0_1 : Int) (a0_2 : Int) (a0_3 : Int) (a0_4 : ByteArray) (r1 : ByteArray) (r2 : Int) (w : World) (h : step_Put.f k a0_0 a0_1 a0_2 a0_3 a0_4 = some (r1, r2)) (HT : Tabs w) :
  Calls Tryd.prog 19 #[.agg #[.int .i64 a0_0, .int .i64 a0_1, .int .i64 a0_2, .int .u64 a0_3, .string a0_4]] w fun e w' => e = .returned (.tuple #[.string r1, .int .i64 r2]) ∧ Below w.heap.size w w' := by
 have hu24 := Tryd.underlying24
 have HB := Ax.mk (Below.refl w.heap.size w)
 have H : ((step_Right.f k a0_0 a0_1 a0_2 a0_3 a0_4).bind fun t114 => (if t114 = true then ((le_Put.f (IntKind.u64.wrap (a0_0)) 1).bind fun t115 => ((le_Put.f (IntKind.u64.wrap (a0_1)) 4).bind fun t116 => (if t115.size + t116.size ≤ 9223372036854775807 then ((le_Put.f (IntKind.u64.wrap (a0_2)) 4).bind fun t117 => (if t115.size + t116.size + t117.size ≤ 9223372036854775807 then ((le_Put.f a0_3 8).bind fun t118 => (if t115.size + t116.size + t117.size + t118.size ≤ 9223372036854775807 then (if t115.size + t116.size + t117.size + t118.size + a0_4.size ≤ 9223372036854775807 then ((seal_Put.f ((((t115 ++ t116) ++ t117) ++ t118) ++ a0_4)).bind fun t119 => ((le_Put.f (IntKind.u64.wrap ((t119.size : Int))) 2).bind fun t120 => (if t120.size + t119.size ≤ 9223372036854775807 then (some (t120 ++ t119, 0)) else (none)))) else (none)) else (none))) else (none))) else (none)))) else (some ((⟨#[]⟩ : ByteArray), 1)))) = some (r1, r2) := h
 clear h
 replace H := Option.bind_eq_some_iff.mp H
 obtain ⟨t114, A20, H⟩ := H
 replace H : (if t114 = true then ((le_Put.f (IntKind.u64.wrap (a0_0)) 1).bind fun t115 => ((le_Put.f (IntKind.u64.wrap (a0_1)) 4).bind fun t116 => (if t115.size + t116.size ≤ 9223372036854775807 then ((le_Put.f (IntKind.u64.wrap (a0_2)) 4).bind fun t117 => (if t115.size + t116.size + t117.size ≤ 9223372036854775807 then ((le_Put.f a0_3 8).bind fun t118 => (if t115.size + t116.size + t117.size + t118.size ≤ 9223372036854775807 then (if t115.size + t116.size + t117.size + t118.size + a0_4.size ≤ 9223372036854775807 then ((seal_Put.f ((((t115 ++ t116) ++ t117) ++ t118) ++ a0_4)).bind fun t119 => ((le_Put.f (IntKind.u64.wrap ((t119.size : Int))) 2).bind fun t120 => (if t120.size + t119.size ≤ 9223372036854775807 then (some (t120 ++ t119, 0)) else (none)))) else (none)) else (none))) else (none))) else (none)))) else (some ((⟨#[]⟩ : ByteArray), 1))) = some (r1, r2) := H
 have A2 := Ax.mk A20
 clear A20
 by_cases c3 : t114 = true
 ·subst c3
  have H1 : ((le_Put.f (IntKind.u64.wrap (a0_0)) 1).bind fun t115 => ((le_Put.f (IntKind.u64.wrap (a0_1)) 4).bind fun t116 => (if t115.size + t116.size ≤ 9223372036854775807 then ((le_Put.f (IntKind.u64.wrap (a0_2)) 4).bind fun t117 => (if t115.size + t116.size + t117.size ≤ 9223372036854775807 then ((le_Put.f a0_3 8).bind fun t118 => (if t115.size + t116.size + t117.size + t118.size ≤ 9223372036854775807 then (if t115.size + t116.size + t117.size + t118.size + a0_4.size ≤ 9223372036854775807 then ((seal_Put.f ((((t115 ++ t116) ++ t117) ++ t118) ++ a0_4)).bind fun t119 => ((le_Put.f (IntKind.u64.wrap ((t119.size : Int))) 2).bind fun t120 => (if t120.size + t119.size ≤ 9223372036854775807 then (some (t120 ++ t119, 0)) else (none)))) else (none)) else (none))) else (none))) else (none)))) = some (r1, r2) := by rw [if_pos rfl] at H; exact H
  clear H
  have H := H1
  clear H1
  replace H := Option.bind_eq_some_iff.mp H
  obtain ⟨t115, A40, H⟩ := H
  replace H : ((le_Put.f (IntKind.u64.wrap (a0_1)) 4).bind fun t116 => (if t115.size + t116.size ≤ 9223372036854775807 then ((le_Put.f (IntKind.u64.wrap (a0_2)) 4).bind fun t117 => (if t115.size + t116.size + t117.size ≤ 9223372036854775807 then ((le_Put.f a0_3 8).bind fun t118 => (if t115.size + t116.size + t117.size + t118.size ≤ 9223372036854775807 then (if t115.size + t116.size + t117.size + t118.size + a0_4.size ≤ 9223372036854775807 then ((seal_Put.f ((((t115 ++ t116) ++ t117) ++ t118) ++ a0_4)).bind fun t119 => ((le_Put.f (IntKind.u64.wrap ((t119.size : Int))) 2).bind fun t120 => (if t120.size + t119.size ≤ 9223372036854775807 then (some (t120 ++ t119, 0)) else (none)))) else (none)) else (none))) else (none))) else (none))) = some (r1, r2) := H
  have A4 := Ax.mk A40
  clear A40
  replace H := Option.bind_eq_some_iff.mp H
  obtain ⟨t116, A50, H⟩ := H
  replace H : (if t115.size + t116.size ≤ 9223372036854775807 then ((le_Put.f (IntKind.u64.wrap (a0_2)) 4).bind fun t117 => (if t115.size + t116.size + t117.size ≤ 9223372036854775807 then ((le_Put.f a0_3 8).bind fun t118 => (if t115.size + t116.size + t117.size + t118.size ≤ 9223372036854775807 then (if t115.size + t116.size + t117.size + t118.size + a0_4.size ≤ 9223372036854775807 then ((seal_Put.f ((((t115 ++ t116) ++ t117) ++ t118) ++ a0_4)).bind fun t119 => ((le_Put.f (IntKind.u64.wrap ((t119.size : Int))) 2).bind fun t120 => (if t120.size + t119.size ≤ 9223372036854775807 then (some (t120 ++ t119, 0)) else (none)))) else (none)) else (none))) else (none))) else (none)) = some (r1, r2) := H
  have A5 := Ax.mk A50
  clear A50
  by_cases c6 : t115.size + t116.size ≤ 9223372036854775807
  ·rw [if_pos c6] at H
   have c6b0 := eq_true c6
   have c6b1 : decide (t115.size + t116.size ≤ 9223372036854775807) = true := decide_eq_true c6
   try have c6b2 : (9223372036854775807 < t115.size + t116.size) = False := eq_false (Nat.not_lt.2 c6)
   replace H := Option.bind_eq_some_iff.mp H
   obtain ⟨t117, A70, H⟩ := H
   replace H : (if t115.size + t116.size + t117.size ≤ 9223372036854775807 then ((le_Put.f a0_3 8).bind fun t118 => (if t115.size + t116.size + t117.size + t118.size ≤ 9223372036854775807 then (if t115.size + t116.size + t117.size + t118.size + a0_4.size ≤ 9223372036854775807 then ((seal_Put.f ((((t115 ++ t116) ++ t117) ++ t118) ++ a0_4)).bind fun t119 => ((le_Put.f (IntKind.u64.wrap ((t119.size : Int))) 2).bind fun t120 => (if t120.size + t119.size ≤ 9223372036854775807 then (some (t120 ++ t119, 0)) else (none)))) else (none)) else (none))) else (none)) = some (r1, r2) := H
   have A7 := Ax.mk A70
   clear A70
   by_cases c8 : t115.size + t116.size + t117.size ≤ 9223372036854775807
   ·rw [if_pos c8] at H
    have c8b0 := eq_true c8
    have c8b1 : decide (t115.size + t116.size + t117.size ≤ 9223372036854775807) = true := decide_eq_true c8
    try have c8b2 : (9223372036854775807 < t115.size + t116.size + t117.size) = False := eq_false (Nat.not_lt.2 c8)
    replace H := Option.bind_eq_some_iff.mp H
    obtain ⟨t118, A90, H⟩ := H
    replace H : (if t115.size + t116.size + t117.size + t118.size ≤ 9223372036854775807 then (if t115.size + t116.size + t117.size + t118.size + a0_4.size ≤ 9223372036854775807 then ((seal_Put.f ((((t115 ++ t116) ++ t117) ++ t118) ++ a0_4)).bind fun t119 => ((le_Put.f (IntKind.u64.wrap ((t119.size : Int))) 2).bind fun t120 => (if t120.size + t119.size ≤ 9223372036854775807 then (some (t120 ++ t119, 0)) else (none)))) else (none)) else (none)) = some (r1, r2) := H
    have A9 := Ax.mk A90
    clear A90
    by_cases c10 : t115.size + t116.size + t117.size + t118.size ≤ 9223372036854775807
    ·rw [if_pos c10] at H
     have c10b0 := eq_true c10
     have c10b1 : decide (t115.size + t116.size + t117.size + t118.size ≤ 9223372036854775807) = true := decide_eq_true c10
     try have c10b2 : (9223372036854775807 < t115.size + t116.size + t117.size + t118.size) = False := eq_false (Nat.not_lt.2 c10)
     by_cases c11 : t115.size + t116.size + t117.size + t118.size + a0_4.size ≤ 9223372036854775807
     ·rw [if_pos c11] at H
      have c11b0 := eq_true c11
      have c11b1 : decide (t115.size + t116.size + t117.size + t118.size + a0_4.size ≤ 9223372036854775807) = true := decide_eq_true c11
      try have c11b2 : (9223372036854775807 < t115.size + t116.size + t117.size + t118.size + a0_4.size) = False := eq_false (Nat.not_lt.2 c11)
      replace H := Option.bind_eq_some_iff.mp H
      obtain ⟨t119, A120, H⟩ := H
      replace H : ((le_Put.f (IntKind.u64.wrap ((t119.size : Int))) 2).bind fun t120 => (if t120.size + t119.size ≤ 9223372036854775807 then (some (t120 ++ t119, 0)) else (none))) = some (r1, r2) := H
      have A12 := Ax.mk A120
      clear A120
      replace H := Option.bind_eq_some_iff.mp H
      obtain ⟨t120, A130, H⟩ := H
      replace H : (if t120.size + t119.size ≤ 9223372036854775807 then (some (t120 ++ t119, 0)) else (none)) = some (r1, r2) := H
      have A13 := Ax.mk A130
      clear A130
      by_cases c14 : t120.size + t119.size ≤ 9223372036854775807
      ·rw [if_pos c14] at H
       have c14b0 := eq_true c14
       have c14b1 : decide (t120.size + t119.size ≤ 9223372036854775807) = true := decide_eq_true c14
       try have c14b2 : (9223372036854775807 < t120.size + t119.size) = False := eq_false (Nat.not_lt.2 c14)
       simp only [Option.some.injEq, Prod.mk.injEq] at H
       obtain ⟨rfl, rfl⟩ := H
       go_enter Tryd.func19, Tryd.ntmps19
       try go_wp2_with (first | ((with_reducible refine gate_dst (N := 1) rfl ?_); refine box_event ?hg (N := 1) ?hd (cs := #[.int .i64 a0_0, .int .i64 a0_1, .int .i64 a0_2, .int .u64 a0_3, .string a0_4]) (t := 24) ?hr ?_; (case hd => rfl); (case hg => rfl); (case hr => first | (go_simp; done) | (go_simp; rfl)); intro gb113 hg w15 hbox hb; have n0_ := Ax.mk (bP bA hb); have n1_ := Ax.mk (hbox); have n2_ := Ax.mk ((ge_new hg : w.heap.size ≤ gb113)); have n3_ := n2_; clear HB; have HB := n0_; have BK113 := n1_; have GW113 := n2_; have GE113 := n3_; clear n0_ n1_ n2_ n3_; clear hb hbox hg; have hcz16_0 : w15.cell? ⟨gb113, 0, none⟩ = some (.int .i64 a0_0) := (bC BK113.out 0).trans rfl; have hcz16_1 : w15.cell? ⟨gb113, 1, none⟩ = some (.int .i64 a0_1) := (bC BK113.out 1).trans rfl; have hcz16_2 : w15.cell? ⟨gb113, 2, none⟩ = some (.int .i64 a0_2) := (bC BK113.out 2).trans rfl; have hcz16_3 : w15.cell? ⟨gb113, 3, none⟩ = some (.int .u64 a0_3) := (bC BK113.out 3).trans rfl; have hcz16_4 : w15.cell? ⟨gb113, 4, none⟩ = some (.string a0_4) := (bC BK113.out 4).trans rfl; have hfz16_0 := bF BK113.out 0; have hfz16_1 := bF BK113.out 1; have hfz16_2 := bF BK113.out 2; have hfz16_3 := bF BK113.out 3; have hfz16_4 := bF BK113.out 4) | ((with_reducible refine gate_callee (f := 21) rfl ?_); refine goesL_ (some 6) rfl rfl Tryd.func21 (by kernel_rfl) rfl #[.agg #[.int .i64 a0_0, .int .i64 a0_1, .int .i64 a0_2, .int .u64 a0_3, .string a0_4]] rfl (by (try simp only [List.map_toArray, List.map_cons, List.map_nil]); first | done | rfl | (simp only [List.length_drop, List.length_take]; rfl) | (rw [wrap_sum2 (by assumption)]; rfl)) ?_; (with_reducible refine (step_Right.calls k a0_0 a0_1 a0_2 a0_3 a0_4 true _ A2.out (HT.below bA)).mono ?_); rintro e w17 ⟨rfl, hb⟩; refine ⟨_, rfl, ?_⟩; have n0_ := Ax.mk (bB (bT BK113.out) hb); have n1_ := Ax.mk (bP bA hb); clear BK113; clear HB; have BK113 := n0_; have HB := n1_; clear n0_ n1_; (try clear hb); (try clear hb2); (try clear hk); (try clear hi)))
       have n0_ := Ax.mk (blk_drew BK113.out)
       have n1_ := Ax.mk (below_drew1 HB.out)
       clear BK113
       clear HB
       have BK113 := n0_
       have HB := n1_
       clear n0_ n1_
       refine start_ (n := 23) (S := fun w' => w'.cell? ⟨gb113, 0, none⟩ = some (.int .i64 a0_0) ∧ w'.cell? ⟨gb113, 1, none⟩ = some (.int .i64 a0_1) ∧ w'.cell? ⟨gb113, 2, none⟩ = some (.int .i64 a0_2) ∧ w'.cell? ⟨gb113, 3, none⟩ = some (.int .u64 a0_3) ∧ w'.cell? ⟨gb113, 4, none⟩ = some (.string a0_4)) (ds := []) (TF 0 23) (by kernel_rfl) rfl rfl ⟨(bC BK113.out 0).trans rfl, (bC BK113.out 1).trans rfl, (bC BK113.out 2).trans rfl, (bC BK113.out 3).trans rfl, (bC BK113.out 4).trans rfl⟩ (fun hHeld => ?_); refine with_tabW step_Put.tab3 step_Put.bits3 (fun HT_ HW_ => ?_)
       generalize w17.drew = w18 at BK113 HB hHeld ⊢
       refine pure_ (i := 0) (N := some 8) (v := ?_) (a' := ?_) (TF 1 22) rfl rfl (any_of HT_.out (by kernel_rfl)) (fun _ _ _ h => h) (Or.inl ⟨by rfl, ?_⟩) ?_ ?_
       rotate_left; · intro w'; go_simp; with_reducible rfl
       rotate_left; · simp only [Act.put, sI, sZ, sS, i64_w, i32_w]; rfl
       refine pure_ (i := 4) (N := some 12) (v := ?_) (a' := ?_) (BT 23 17) rfl rfl (any_of HT_.out (by kernel_rfl)) (fun _ _ _ h => h) (Or.inl ⟨by rfl, ?_⟩) ?_ ?_
       rotate_left; · intro w'; go_simp; with_reducible rfl
       rotate_left; · simp only [Act.put, sI, sZ, sS, i64_w, i32_w]; rfl
       refine pure_ (i := 9) (N := some 17) (v := ?_) (a' := ?_) (BT 23 529) rfl rfl (any_of HT_.out (by kernel_rfl)) (fun _ _ _ h => h) (Or.inl ⟨by rfl, ?_⟩) ?_ ?_
       rotate_left; · intro w'; go_simp; with_reducible rfl
       rotate_left; · simp only [Act.put, sI, sZ, sS, i64_w, i32_w]; rfl
       refine pure_ (i := 14) (N := some 22) (v := ?_) (a' := ?_) (BT 23 16913) rfl rfl (any_of HT_.out (by kernel_rfl)) (fun _ _ _ h => h) (Or.inl ⟨by rfl, ?_⟩) ?_ ?_
       rotate_left; · intro w'; go_simp; with_reducible rfl
       rotate_left; · simp only [Act.put, sI, sZ, sS, i64_w, i32_w]; rfl
       refine pure_ (i := 18) (N := some 26) (v := ?_) (a' := ?_) (BT 23 279057) rfl rfl (any_of HT_.out (by kernel_rfl)) (fun _ _ _ h => h) (Or.inl ⟨by rfl, ?_⟩) ?_ ?_
       rotate_left; · intro w'; go_simp; with_reducible rfl
       rotate_left; · simp only [Act.put, sI, sZ, sS, i64_w, i32_w]; rfl
       refine take_ (i := 1) (N := some 9) (v := ?_) (a' := ?_) (BT 23 279059) rfl rfl (take_ofW HT_.out HW_.out (by kernel_rfl)) (fun _ _ _ h => h) (Or.inl ⟨by rfl, ?_⟩) hHeld ?_ ?_
       rotate_left
       ·rintro w' ⟨s0, s1, s2, s3, s4⟩
        go_simp
        with_reducible rfl
       rotate_left
       ·simp only [Act.put, sI, sZ, sS, i64_w, i32_w]
        rfl
       refine pure_ (i := 2) (N := some 10) (v := ?_) (a' := ?_) (BT 23 279063) rfl rfl (any_of HT_.out (by kernel_rfl)) (fun _ _ _ h => h) (Or.inl ⟨by rfl, ?_⟩) ?_ ?_
       rotate_left; · intro w'; go_simp; with_reducible rfl
       rotate_left; · simp only [Act.put, sI, sZ, sS, i64_w, i32_w]; rfl
       refine take_ (i := 5) (N := some 13) (v := ?_) (a' := ?_) (BT 23 279095) rfl rfl (take_ofW HT_.out HW_.out (by kernel_rfl)) (fun _ _ _ h => h) (Or.inl ⟨by rfl, ?_⟩) hHeld ?_ ?_
       rotate_left
       ·rintro w' ⟨s0, s1, s2, s3, s4⟩
        go_simp
        with_reducible rfl
       rotate_left
       ·simp only [Act.put, sI, sZ, sS, i64_w, i32_w]
        rfl
       refine pure_ (i := 6) (N := some 14) (v := ?_) (a' := ?_) (BT 23 279159) rfl rfl (any_of HT_.out (by kernel_rfl)) (fun _ _ _ h => h) (Or.inl ⟨by rfl, ?_⟩) ?_ ?_
       rotate_left; · intro w'; go_simp; with_reducible rfl
       rotate_left; · simp only [Act.put, sI, sZ, sS, i64_w, i32_w]; rfl
       refine take_ (i := 10) (N := some 18) (v := ?_) (a' := ?_) (BT 23 280183) rfl rfl (take_ofW HT_.out HW_.out (by kernel_rfl)) (fun _ _ _ h => h) (Or.inl ⟨by rfl, ?_⟩) hHeld ?_ ?_
       rotate_left
       ·rintro w' ⟨s0, s1, s2, s3, s4⟩
        go_simp
        with_reducible rfl
       rotate_left
       ·simp only [Act.put, sI, sZ, sS, i64_w, i32_w]
        rfl
       refine pure_ (i := 11) (N := some 19) (v := ?_) (a' := ?_) (BT 23 282231) rfl rfl (any_of HT_.out (by kernel_rfl)) (fun _ _ _ h => h) (Or.inl ⟨by rfl, ?_⟩) ?_ ?_
       rotate_left; · intro w'; go_simp; with_reducible rfl
       rotate_left; · simp only [Act.put, sI, sZ, sS, i64_w, i32_w]; rfl
       refine take_ (i := 15) (N := some 23) (v := ?_) (a' := ?_) (BT 23 314999) rfl rfl (take_ofW HT_.out HW_.out (by kernel_rfl)) (fun _ _ _ h => h) (Or.inl ⟨by rfl, ?_⟩) hHeld ?_ ?_
       rotate_left
       ·rintro w' ⟨s0, s1, s2, s3, s4⟩
        go_simp
        with_reducible rfl
       rotate_left
       ·simp only [Act.put, sI, sZ, sS, i64_w, i32_w]
        rfl
       refine take_ (i := 19) (N := some 27) (v := ?_) (a' := ?_) (BT 23 839287) rfl rfl (take_ofW HT_.out HW_.out (by kernel_rfl)) (fun _ _ _ h => h) (Or.inl ⟨by rfl, ?_⟩) hHeld ?_ ?_
       rotate_left
       ·rintro w' ⟨s0, s1, s2, s3, s4⟩
        go_simp
        with_reducible rfl
       rotate_left
       ·simp only [Act.put, sI, sZ, sS, i64_w, i32_w]
        rfl
       refine one_ (i := 3) (N := some 11) (BT 23 839295) rfl rfl (one_of HT_.out (by kernel_rfl)) (by decide) (fun K hK => ?_)
       refine goes_ Tryd.func47 (by kernel_rfl) rfl #[.int .u64 (IntKind.u64.wrap (a0_0)), .int .i64 1] (by rfl) rfl rfl (by (try simp only [List.map_toArray, List.map_cons, List.map_nil]); first | done | rfl | (simp only [List.length_drop, List.length_take]; rfl) | (rw [wrap_sum2 (by assumption)]; rfl)) ?_
       with_reducible refine (le_Put.calls (IntKind.u64.wrap (a0_0)) 1 t115 _ A4.out).mono ?_
       rintro e w19 ⟨rfl, hb⟩
       refine ⟨_, rfl, ?_⟩
       have n0_ := Ax.mk (bB (bT BK113.out) hb)
       have n1_ := Ax.mk (bP bA hb)
       clear BK113
       clear HB
       have BK113 := n0_
       have HB := n1_
       clear n0_ n1_
       (try clear hb)
       (try clear hb2)
       (try clear hk)
       (try clear hi)
       refine hK.out _ _ ⟨(bC BK113.out 0).trans rfl, (bC BK113.out 1).trans rfl, (bC BK113.out 2).trans rfl, (bC BK113.out 3).trans rfl, (bC BK113.out 4).trans rfl⟩ (fun hHeld => ?_)
       clear hK K
       refine norm_ (a' := ?_) ?_ ?_
       rotate_left
       ·show Act.put _ (some 11) _ = _
        simp only [Act.put, sI, sZ, sS, i64_w, i32_w]
        rfl
       refine one_ (i := 7) (N := some 15) (BT 23 839423) rfl rfl (one_of HT_.out (by kernel_rfl)) (by decide) (fun K hK => ?_)
       refine goes_ Tryd.func47 (by kernel_rfl) rfl #[.int .u64 (IntKind.u64.wrap (a0_1)), .int .i64 4] (by rfl) rfl rfl (by (try simp only [List.map_toArray, List.map_cons, List.map_nil]); first | done | rfl | (simp only [List.length_drop, List.length_take]; rfl) | (rw [wrap_sum2 (by assumption)]; rfl)) ?_
       with_reducible refine (le_Put.calls (IntKind.u64.wrap (a0_1)) 4 t116 _ A5.out).mono ?_
       rintro e w20 ⟨rfl, hb⟩
       refine ⟨_, rfl, ?_⟩
       have n0_ := Ax.mk (bB (bT BK113.out) hb)
       have n1_ := Ax.mk (bP bA hb)
       clear BK113
       clear HB
       have BK113 := n0_
       have HB := n1_
       clear n0_ n1_
       (try clear hb)
       (try clear hb2)
       (try clear hk)
       (try clear hi)
       refine hK.out _ _ ⟨(bC BK113.out 0).trans rfl, (bC BK113.out 1).trans rfl, (bC BK113.out 2).trans rfl, (bC BK113.out 3).trans rfl, (bC BK113.out 4).trans rfl⟩ (fun hHeld => ?_)
       clear hK K
       refine norm_ (a' := ?_) ?_ ?_
       rotate_left
       ·show Act.put _ (some 15) _ = _
        simp only [Act.put, sI, sZ, sS, i64_w, i32_w]
        rfl
       refine pure_ (i := 8) (N := some 16) (v := ?_) (a' := ?_) (BT 23 839679) rfl rfl (any_of HT_.out (by kernel_rfl)) (fun _ _ _ h => h) (Or.inl ⟨by rfl, ?_⟩) ?_ ?_
       rotate_left; · intro w'; go_simp; with_reducible rfl
       rotate_left; · simp only [Act.put, sI, sZ, sS, i64_w, i32_w]; rfl
       refine one_ (i := 12) (N := some 20) (BT 23 843775) rfl rfl (one_of HT_.out (by kernel_rfl)) (by decide) (fun K hK => ?_)
       refine goes_ Tryd.func47 (by kernel_rfl) rfl #[.int .u64 (IntKind.u64.wrap (a0_2)), .int .i64 4] (by rfl) rfl rfl (by (try simp only [List.map_toArray, List.map_cons, List.map_nil]); first | done | rfl | (simp only [List.length_drop, List.length_take]; rfl) | (rw [wrap_sum2 (by assumption)]; rfl)) ?_
       with_reducible refine (le_Put.calls (IntKind.u64.wrap (a0_2)) 4 t117 _ A7.out).mono ?_
       rintro e w21 ⟨rfl, hb⟩
       refine ⟨_, rfl, ?_⟩
       have n0_ := Ax.mk (bB (bT BK113.out) hb)
       have n1_ := Ax.mk (bP bA hb)
       clear BK113
       clear HB
       have BK113 := n0_
       have HB := n1_
       clear n0_ n1_
       (try clear hb)
       (try clear hb2)
       (try clear hk)
       (try clear hi)
       refine hK.out _ _ ⟨(bC BK113.out 0).trans rfl, (bC BK113.out 1).trans rfl, (bC BK113.out 2).trans rfl, (bC BK113.out 3).trans rfl, (bC BK113.out 4).trans rfl⟩ (fun hHeld => ?_)
       clear hK K
       refine norm_ (a' := ?_) ?_ ?_
       rotate_left
       ·show Act.put _ (some 20) _ = _
        simp only [Act.put, sI, sZ, sS, i64_w, i32_w]
        rfl
       refine pure_ (i := 13) (N := some 21) (v := ?_) (a' := ?_) (BT 23 851967) rfl rfl (any_of HT_.out (by kernel_rfl)) (fun _ _ _ h => h) (Or.inl ⟨by rfl, ?_⟩) ?_ ?_
       rotate_left; · intro w'; go_simp; with_reducible rfl
       rotate_left; · simp only [Act.put, sI, sZ, sS, i64_w, i32_w]; rfl
       refine one_ (i := 16) (N := some 24) (BT 23 917503) rfl rfl (one_of HT_.out (by kernel_rfl)) (by decide) (fun K hK => ?_)
       refine goes_ Tryd.func47 (by kernel_rfl) rfl #[.int .u64 a0_3, .int .i64 8] (by rfl) rfl rfl (by (try simp only [List.map_toArray, List.map_cons, List.map_nil]); first | done | rfl | (simp only [List.length_drop, List.length_take]; rfl) | (rw [wrap_sum2 (by assumption)]; rfl)) ?_
       with_reducible refine (le_Put.calls a0_3 8 t118 _ A9.out).mono ?_
       rintro e w22 ⟨rfl, hb⟩
       refine ⟨_, rfl, ?_⟩
       have n0_ := Ax.mk (bB (bT BK113.out) hb)
       have n1_ := Ax.mk (bP bA hb)
       clear BK113
       clear HB
       have BK113 := n0_
       have HB := n1_
       clear n0_ n1_
       (try clear hb)
       (try clear hb2)
       (try clear hk)
       (try clear hi)
       refine hK.out _ _ ⟨(bC BK113.out 0).trans rfl, (bC BK113.out 1).trans rfl, (bC BK113.out 2).trans rfl, (bC BK113.out 3).trans rfl, (bC BK113.out 4).trans rfl⟩ (fun hHeld => ?_)
       clear hK K
       refine norm_ (a' := ?_) ?_ ?_
       rotate_left
       ·show Act.put _ (some 24) _ = _
        simp only [Act.put, sI, sZ, sS, i64_w, i32_w]
        rfl
       refine pure_ (i := 17) (N := some 25) (v := ?_) (a' := ?_) (TF 20 3) rfl rfl (any_of HT_.out (by kernel_rfl)) (fun _ _ _ h => h) (Or.inl ⟨by rfl, ?_⟩) ?_ ?_
       rotate_left; · intro w'; go_simp; with_reducible rfl
       rotate_left; · simp only [Act.put, sI, sZ, sS, i64_w, i32_w]; rfl
       refine pure_ (i := 20) (N := some 28) (v := ?_) (a' := ?_) (TF 21 2) rfl rfl (any_of HT_.out (by kernel_rfl)) (fun _ _ _ h => h) (Or.inl ⟨by rfl, ?_⟩) ?_ ?_
       rotate_left; · intro w'; go_simp; with_reducible rfl
       rotate_left; · simp only [Act.put, sI, sZ, sS, i64_w, i32_w]; rfl
       refine one_ (i := 21) (N := some 29) (TF 22 1) rfl rfl (one_of HT_.out (by kernel_rfl)) (by decide) (fun K hK => ?_)
       refine goes_ Tryd.func46 (by kernel_rfl) rfl #[.string ((((t115 ++ t116) ++ t117) ++ t118) ++ a0_4)] (by rfl) rfl rfl (by (try simp only [List.map_toArray, List.map_cons, List.map_nil]); first | done | rfl | (simp only [List.length_drop, List.length_take]; rfl) | (rw [wrap_sum2 (by assumption)]; rfl)) ?_
       with_reducible refine (seal_Put.calls ((((t115 ++ t116) ++ t117) ++ t118) ++ a0_4) t119 _ A12.out).mono ?_
       rintro e w23 ⟨rfl, hb⟩
       refine ⟨_, rfl, ?_⟩
       have n0_ := Ax.mk (bB (bT BK113.out) hb)
       have n1_ := Ax.mk (bP bA hb)
       clear BK113
       clear HB
       have BK113 := n0_
       have HB := n1_
       clear n0_ n1_
       (try clear hb)
       (try clear hb2)
       (try clear hk)
       (try clear hi)
       refine hK.out _ _ ⟨(bC BK113.out 0).trans rfl, (bC BK113.out 1).trans rfl, (bC BK113.out 2).trans rfl, (bC BK113.out 3).trans rfl, (bC BK113.out 4).trans rfl⟩ (fun hHeld => ?_)
       clear hK K
       refine norm_ (a' := ?_) ?_ ?_
       rotate_left
       ·show Act.put _ (some 29) _ = _
        simp only [Act.put, sI, sZ, sS, i64_w, i32_w]
        rfl
       refine pure_ (i := 22) (N := some 4) (v := ?_) (a' := ?_) (TF 23 0) rfl rfl (any_of HT_.out (by kernel_rfl)) (fun _ _ _ h => h) (Or.inl ⟨by rfl, ?_⟩) ?_ ?_
       rotate_left; · intro w'; go_simp; with_reducible rfl
       rotate_left; · simp only [Act.put, sI, sZ, sS, i64_w, i32_w]; rfl
       refine done_ (done_of HT_.out (by kernel_rfl)) ?_
       try go_wp2_with (first | ((with_reducible refine gate_callee (f := 47) rfl ?_); refine goesL_ (some 33) rfl rfl Tryd.func47 (by kernel_rfl) rfl #[.int .u64 (IntKind.u64.wrap ((t119.size : Int))), .int .i64 2] rfl (by (try simp only [List.map_toArray, List.map_cons, List.map_nil]); first | done | rfl | (simp only [List.length_drop, List.length_take]; rfl) | (rw [wrap_sum2 (by assumption)]; rfl)) ?_; (with_reducible refine (le_Put.calls (IntKind.u64.wrap ((t119.size : Int))) 2 t120 _ A13.out).mono ?_); rintro e w24 ⟨rfl, hb⟩; refine ⟨_, rfl, ?_⟩; have n0_ := Ax.mk (bB (bT BK113.out) hb); have n1_ := Ax.mk (bP bA hb); clear BK113; clear HB; have BK113 := n0_; have HB := n1_; clear n0_ n1_; (try clear hb); (try clear hb2); (try clear hk); (try clear hi)))
       go_ret2
       exact ⟨by first | rfl | (simp [errW_none, errW_some] <;> rfl) | (simp [*, errW_none, errW_some] <;> rfl), bA⟩
      ·rw [if_neg c14] at H
       exact absurd H (by simp)
     ·rw [if_neg c11] at H
      exact absurd H (by simp)
    ·rw [if_neg c10] at H
     exact absurd H (by simp)
   ·rw [if_neg c8] at H
    exact absurd H (by simp)
  ·rw [if_neg c6] at H
   exact absurd H (by simp)
 ·replace c3 := Bool.eq_false_iff.mpr c3
  subst c3
  have H1 : (some ((⟨#[]⟩ : ByteArray), 1)) = some (r1, r2) := by rw [if_neg (show ¬ (false = true) by decide)] at H; exact H
  clear H
  have H := H1
  clear H1
  simp only [Option.some.injEq, Prod.mk.injEq] at H
  obtain ⟨rfl, rfl⟩ := H
  go_enter Tryd.func19, Tryd.ntmps19
  go_wp2_with (first | ((with_reducible refine gate_dst (N := 1) rfl ?_); refine box_event ?hg (N := 1) ?hd (cs := #[.int .i64 a0_0, .int .i64 a0_1, .int .i64 a0_2, .int .u64 a0_3, .string a0_4]) (t := 24) ?hr ?_; (case hd => rfl); (case hg => rfl); (case hr => first | (go_simp; done) | (go_simp; rfl)); intro gb113 hg w25 hbox hb; have n0_ := Ax.mk (bP bA hb); have n1_ := Ax.mk (hbox); have n2_ := Ax.mk ((ge_new hg : w.heap.size ≤ gb113)); have n3_ := n2_; clear HB; have HB := n0_; have BK113 := n1_; have GW113 := n2_; have GE113 := n3_; clear n0_ n1_ n2_ n3_; clear hb hbox hg; have hcz26_0 : w25.cell? ⟨gb113, 0, none⟩ = some (.int .i64 a0_0) := (bC BK113.out 0).trans rfl; have hcz26_1 : w25.cell? ⟨gb113, 1, none⟩ = some (.int .i64 a0_1) := (bC BK113.out 1).trans rfl; have hcz26_2 : w25.cell? ⟨gb113, 2, none⟩ = some (.int .i64 a0_2) := (bC BK113.out 2).trans rfl; have hcz26_3 : w25.cell? ⟨gb113, 3, none⟩ = some (.int .u64 a0_3) := (bC BK113.out 3).trans rfl; have hcz26_4 : w25.cell? ⟨gb113, 4, none⟩ = some (.string a0_4) := (bC BK113.out 4).trans rfl; have hfz26_0 := bF BK113.out 0; have hfz26_1 := bF BK113.out 1; have hfz26_2 := bF BK113.out 2; have hfz26_3 := bF BK113.out 3; have hfz26_4 := bF BK113.out 4) | ((with_reducible refine gate_callee (f := 21) rfl ?_); refine goesL_ (some 6) rfl rfl Tryd.func21 (by kernel_rfl) rfl #[.agg #[.int .i64 a0_0, .int .i64 a0_1, .int .i64 a0_2, .int .u64 a0_3, .string a0_4]] rfl (by (try simp only [List.map_toArray, List.map_cons, List.map_nil]); first | done | rfl | (simp only [List.length_drop, List.length_take]; rfl) | (rw [wrap_sum2 (by assumption)]; rfl)) ?_; (with_reducible refine (step_Right.calls k a0_0 a0_1 a0_2 a0_3 a0_4 false _ A2.out (HT.below bA)).mono ?_); rintro e w27 ⟨rfl, hb⟩; refine ⟨_, rfl, ?_⟩; have n0_ := Ax.mk (bB (bT BK113.out) hb); have n1_ := Ax.mk (bP bA hb); clear BK113; clear HB; have BK113 := n0_; have HB := n1_; clear n0_ n1_; (try clear hb); (try clear hb2); (try clear hk); (try clear hi)))
  go_ret2
  exact ⟨by first | rfl | (simp [errW_none, errW_some] <;> rfl) | (simp [*, errW_none, errW_some] <;> rfl), bA⟩
def r12_Right.f (k : Nat) (a0_0 : Int) (a0_1 : Int) (a0_2 : Int) (a0_3 : Int) (a0_4 : ByteArray) : Option (Bool) := if a0_4.toList = ([] : List UInt8) then (if a0_0 ≥ 1 then (if a0_0 ≤ 8 then (if a0_1 ≥ 0 then (if a0_1 ≤ 2147483647 then (if a0_2 ≥ 0 then (some (decide (a0_2 ≤ 2147483647))) else (some false)) else (some false)) else (some false)) else (some false)) else (some false)) else (if a0_0 = 1 then ((r1_Right.f k a0_4).bind fun t253 => (if t253 = true then (if a0_0 ≥ 1 then (if a0_0 ≤ 8 then (if a0_1 ≥ 0 then (if a0_1 ≤ 2147483647 then (if a0_2 ≥ 0 then (some (decide (a0_2 ≤ 2147483647))) else (some false)) else (some false)) else (some false)) else (some false)) else (some false)) else (some false))) else (some false))
theorem r12_Right.mono : ∀ a0 a1 a2 a3 a4 k, LeO (r12_Right.f k a0 a1 a2 a3 a4) (r12_Right.f (k + 1) a0 a1 a2 a3 a4) := by
 intro a0 a1 a2 a3 a4 k
 unfold r12_Right.f
 repeat' first
   | (with_reducible exact r1_Right.mono _ _)
   | (with_reducible exact LeO.refl _)
   | (with_reducible exact LeO.none _)
   | (with_reducible refine LeO.ite ?_ ?_)
   | (with_reducible refine LeO.bind ?_ (fun _ => ?_))
   | exact r1_Right.mono _ _
   | exact LeO.none _
   | refine LeO.ite ?_ ?_
   | refine LeO.bind ?_ (fun _ => ?_)
set_option maxHeartbeats 8000000 in
set_option maxRecDepth 100000 in
theorem r12_Right.calls (k : Nat) (a0_0 : Int) (a0_1 : Int) (a0_2 : Int) (a0_3 : Int) (a0_4 : ByteArray) (r : Bool) (w : World) (h : r12_Right.f k a0_0 a0_1 a0_2 a0_3 a0_4 = some r) :
  Calls Tryd.prog 22 #[.agg #[.int .i64 a0_0, .int .i64 a0_1, .int .i64 a0_2, .int .u64 a0_3, .string a0_4]] w fun e w' => e = .returned (.bool r) ∧ Below w.heap.size w w' := by
 have hu26 := Tryd.underlying26
 have HB := Ax.mk (Below.refl w.heap.size w)
 have H : (if a0_4.toList = ([] : List UInt8) then (if a0_0 ≥ 1 then (if a0_0 ≤ 8 then (if a0_1 ≥ 0 then (if a0_1 ≤ 2147483647 then (if a0_2 ≥ 0 then (some (decide (a0_2 ≤ 2147483647))) else (some false)) else (some false)) else (some false)) else (some false)) else (some false)) else (if a0_0 = 1 then ((r1_Right.f k a0_4).bind fun t253 => (if t253 = true then (if a0_0 ≥ 1 then (if a0_0 ≤ 8 then (if a0_1 ≥ 0 then (if a0_1 ≤ 2147483647 then (if a0_2 ≥ 0 then (some (decide (a0_2 ≤ 2147483647))) else (some false)) else (some false)) else (some false)) else (some false)) else (some false)) else (some false))) else (some false))) = some r := h
 clear h
 by_cases c2 : a0_4.toList = ([] : List UInt8)
 ·rw [if_pos c2] at H
  have c2b0 : (a0_4.toList == ([] : List UInt8)) = true := beq_iff_eq.mpr c2
  have c2b1 : (a0_4.toList != ([] : List UInt8)) = false := bne_eq_false_iff_eq.mpr c2
  clear c2
  by_cases c3 : a0_0 ≥ 1
  ·rw [if_pos c3] at H
   have c3b0 : decide (1 ≤ a0_0) = true := decide_eq_true c3
   clear c3
   by_cases c4 : a0_0 ≤ 8
   ·rw [if_pos c4] at H
    have c4b0 : decide (a0_0 ≤ 8) = true := decide_eq_true c4
    clear c4
    by_cases c5 : a0_1 ≥ 0
    ·rw [if_pos c5] at H
     have c5b0 : decide (0 ≤ a0_1) = true := decide_eq_true c5
     clear c5
     by_cases c6 : a0_1 ≤ 2147483647
     ·rw [if_pos c6] at H
      have c6b0 : decide (a0_1 ≤ 2147483647) = true := decide_eq_true c6
      clear c6
      by_cases c7 : a0_2 ≥ 0
      ·rw [if_pos c7] at H
       have c7b0 : decide (0 ≤ a0_2) = true := decide_eq_true c7
       clear c7
       obtain rfl := Option.some.inj H
       go_enter Tryd.func22, Tryd.ntmps22
       go_wp2_with (first | ((with_reducible refine gate_dst (N := 1) rfl ?_); refine box_event ?hg (N := 1) ?hd (cs := #[.int .i64 a0_0, .int .i64 a0_1, .int .i64 a0_2, .int .u64 a0_3, .string a0_4]) (t := 26) ?hr ?_; (case hd => rfl); (case hg => rfl); (case hr => first | (go_simp; done) | (go_simp; rfl)); intro gb252 hg w8 hbox hb; have n0_ := Ax.mk (bP bA hb); have n1_ := Ax.mk (hbox); have n2_ := Ax.mk ((ge_new hg : w.heap.size ≤ gb252)); have n3_ := n2_; clear HB; have HB := n0_; have BK252 := n1_; have GW252 := n2_; have GE252 := n3_; clear n0_ n1_ n2_ n3_; clear hb hbox hg; have hcz9_0 : w8.cell? ⟨gb252, 0, none⟩ = some (.int .i64 a0_0) := (bC BK252.out 0).trans rfl; have hcz9_1 : w8.cell? ⟨gb252, 1, none⟩ = some (.int .i64 a0_1) := (bC BK252.out 1).trans rfl; have hcz9_2 : w8.cell? ⟨gb252, 2, none⟩ = some (.int .i64 a0_2) := (bC BK252.out 2).trans rfl; have hcz9_3 : w8.cell? ⟨gb252, 3, none⟩ = some (.int .u64 a0_3) := (bC BK252.out 3).trans rfl; have hcz9_4 : w8.cell? ⟨gb252, 4, none⟩ = some (.string a0_4) := (bC BK252.out 4).trans rfl; have hfz9_0 := bF BK252.out 0; have hfz9_1 := bF BK252.out 1; have hfz9_2 := bF BK252.out 2; have hfz9_3 := bF BK252.out 3; have hfz9_4 := bF BK252.out 4))
       go_ret
       exact ⟨by first | rfl | (simp [errW_none, errW_some] <;> rfl) | (simp [*, errW_none, errW_some] <;> rfl), bA⟩
      ·rw [if_neg c7] at H
       have c7b0 : decide (0 ≤ a0_2) = false := decide_eq_false c7
       clear c7
       obtain rfl := Option.some.inj H
       go_enter Tryd.func22, Tryd.ntmps22
       go_wp2_with (first | ((with_reducible refine gate_dst (N := 1) rfl ?_); refine box_event ?hg (N := 1) ?hd (cs := #[.int .i64 a0_0, .int .i64 a0_1, .int .i64 a0_2, .int .u64 a0_3, .string a0_4]) (t := 26) ?hr ?_; (case hd => rfl); (case hg => rfl); (case hr => first | (go_simp; done) | (go_simp; rfl)); intro gb252 hg w10 hbox hb; have n0_ := Ax.mk (bP bA hb); have n1_ := Ax.mk (hbox); have n2_ := Ax.mk ((ge_new hg : w.heap.size ≤ gb252)); have n3_ := n2_; clear HB; have HB := n0_; have BK252 := n1_; have GW252 := n2_; have GE252 := n3_; clear n0_ n1_ n2_ n3_; clear hb hbox hg; have hcz11_0 : w10.cell? ⟨gb252, 0, none⟩ = some (.int .i64 a0_0) := (bC BK252.out 0).trans rfl; have hcz11_1 : w10.cell? ⟨gb252, 1, none⟩ = some (.int .i64 a0_1) := (bC BK252.out 1).trans rfl; have hcz11_2 : w10.cell? ⟨gb252, 2, none⟩ = some (.int .i64 a0_2) := (bC BK252.out 2).trans rfl; have hcz11_3 : w10.cell? ⟨gb252, 3, none⟩ = some (.int .u64 a0_3) := (bC BK252.out 3).trans rfl; have hcz11_4 : w10.cell? ⟨gb252, 4, none⟩ = some (.string a0_4) := (bC BK252.out 4).trans rfl; have hfz11_0 := bF BK252.out 0; have hfz11_1 := bF BK252.out 1; have hfz11_2 := bF BK252.out 2; have hfz11_3 := bF BK252.out 3; have hfz11_4 := bF BK252.out 4))
       go_ret
       exact ⟨by first | rfl | (simp [errW_none, errW_some] <;> rfl) | (simp [*, errW_none, errW_some] <;> rfl), bA⟩
     ·rw [if_neg c6] at H
      have c6b0 : decide (a0_1 ≤ 2147483647) = false := decide_eq_false c6
      clear c6
      obtain rfl := Option.some.inj H
      go_enter Tryd.func22, Tryd.ntmps22
      go_wp2_with (first | ((with_reducible refine gate_dst (N := 1) rfl ?_); refine box_event ?hg (N := 1) ?hd (cs := #[.int .i64 a0_0, .int .i64 a0_1, .int .i64 a0_2, .int .u64 a0_3, .string a0_4]) (t := 26) ?hr ?_; (case hd => rfl); (case hg => rfl); (case hr => first | (go_simp; done) | (go_simp; rfl)); intro gb252 hg w12 hbox hb; have n0_ := Ax.mk (bP bA hb); have n1_ := Ax.mk (hbox); have n2_ := Ax.mk ((ge_new hg : w.heap.size ≤ gb252)); have n3_ := n2_; clear HB; have HB := n0_; have BK252 := n1_; have GW252 := n2_; have GE252 := n3_; clear n0_ n1_ n2_ n3_; clear hb hbox hg; have hcz13_0 : w12.cell? ⟨gb252, 0, none⟩ = some (.int .i64 a0_0) := (bC BK252.out 0).trans rfl; have hcz13_1 : w12.cell? ⟨gb252, 1, none⟩ = some (.int .i64 a0_1) := (bC BK252.out 1).trans rfl; have hcz13_2 : w12.cell? ⟨gb252, 2, none⟩ = some (.int .i64 a0_2) := (bC BK252.out 2).trans rfl; have hcz13_3 : w12.cell? ⟨gb252, 3, none⟩ = some (.int .u64 a0_3) := (bC BK252.out 3).trans rfl; have hcz13_4 : w12.cell? ⟨gb252, 4, none⟩ = some (.string a0_4) := (bC BK252.out 4).trans rfl; have hfz13_0 := bF BK252.out 0; have hfz13_1 := bF BK252.out 1; have hfz13_2 := bF BK252.out 2; have hfz13_3 := bF BK252.out 3; have hfz13_4 := bF BK252.out 4))
      go_ret
      exact ⟨by first | rfl | (simp [errW_none, errW_some] <;> rfl) | (simp [*, errW_none, errW_some] <;> rfl), bA⟩
    ·rw [if_neg c5] at H
     have c5b0 : decide (0 ≤ a0_1) = false := decide_eq_false c5
     clear c5
     obtain rfl := Option.some.inj H
     go_enter Tryd.func22, Tryd.ntmps22
     go_wp2_with (first | ((with_reducible refine gate_dst (N := 1) rfl ?_); refine box_event ?hg (N := 1) ?hd (cs := #[.int .i64 a0_0, .int .i64 a0_1, .int .i64 a0_2, .int .u64 a0_3, .string a0_4]) (t := 26) ?hr ?_; (case hd => rfl); (case hg => rfl); (case hr => first | (go_simp; done) | (go_simp; rfl)); intro gb252 hg w14 hbox hb; have n0_ := Ax.mk (bP bA hb); have n1_ := Ax.mk (hbox); have n2_ := Ax.mk ((ge_new hg : w.heap.size ≤ gb252)); have n3_ := n2_; clear HB; have HB := n0_; have BK252 := n1_; have GW252 := n2_; have GE252 := n3_; clear n0_ n1_ n2_ n3_; clear hb hbox hg; have hcz15_0 : w14.cell? ⟨gb252, 0, none⟩ = some (.int .i64 a0_0) := (bC BK252.out 0).trans rfl; have hcz15_1 : w14.cell? ⟨gb252, 1, none⟩ = some (.int .i64 a0_1) := (bC BK252.out 1).trans rfl; have hcz15_2 : w14.cell? ⟨gb252, 2, none⟩ = some (.int .i64 a0_2) := (bC BK252.out 2).trans rfl; have hcz15_3 : w14.cell? ⟨gb252, 3, none⟩ = some (.int .u64 a0_3) := (bC BK252.out 3).trans rfl; have hcz15_4 : w14.cell? ⟨gb252, 4, none⟩ = some (.string a0_4) := (bC BK252.out 4).trans rfl; have hfz15_0 := bF BK252.out 0; have hfz15_1 := bF BK252.out 1; have hfz15_2 := bF BK252.out 2; have hfz15_3 := bF BK252.out 3; have hfz15_4 := bF BK252.out 4))
     go_ret
     exact ⟨by first | rfl | (simp [errW_none, errW_some] <;> rfl) | (simp [*, errW_none, errW_some] <;> rfl), bA⟩
   ·rw [if_neg c4] at H
    have c4b0 : decide (a0_0 ≤ 8) = false := decide_eq_false c4
    clear c4
    obtain rfl := Option.some.inj H
    go_enter Tryd.func22, Tryd.ntmps22
    go_wp2_with (first | ((with_reducible refine gate_dst (N := 1) rfl ?_); refine box_event ?hg (N := 1) ?hd (cs := #[.int .i64 a0_0, .int .i64 a0_1, .int .i64 a0_2, .int .u64 a0_3, .string a0_4]) (t := 26) ?hr ?_; (case hd => rfl); (case hg => rfl); (case hr => first | (go_simp; done) | (go_simp; rfl)); intro gb252 hg w16 hbox hb; have n0_ := Ax.mk (bP bA hb); have n1_ := Ax.mk (hbox); have n2_ := Ax.mk ((ge_new hg : w.heap.size ≤ gb252)); have n3_ := n2_; clear HB; have HB := n0_; have BK252 := n1_; have GW252 := n2_; have GE252 := n3_; clear n0_ n1_ n2_ n3_; clear hb hbox hg; have hcz17_0 : w16.cell? ⟨gb252, 0, none⟩ = some (.int .i64 a0_0) := (bC BK252.out 0).trans rfl; have hcz17_1 : w16.cell? ⟨gb252, 1, none⟩ = some (.int .i64 a0_1) := (bC BK252.out 1).trans rfl; have hcz17_2 : w16.cell? ⟨gb252, 2, none⟩ = some (.int .i64 a0_2) := (bC BK252.out 2).trans rfl; have hcz17_3 : w16.cell? ⟨gb252, 3, none⟩ = some (.int .u64 a0_3) := (bC BK252.out 3).trans rfl; have hcz17_4 : w16.cell? ⟨gb252, 4, none⟩ = some (.string a0_4) := (bC BK252.out 4).trans rfl; have hfz17_0 := bF BK252.out 0; have hfz17_1 := bF BK252.out 1; have hfz17_2 := bF BK252.out 2; have hfz17_3 := bF BK252.out 3; have hfz17_4 := bF BK252.out 4))
    go_ret
    exact ⟨by first | rfl | (simp [errW_none, errW_some] <;> rfl) | (simp [*, errW_none, errW_some] <;> rfl), bA⟩
  ·rw [if_neg c3] at H
   have c3b0 : decide (1 ≤ a0_0) = false := decide_eq_false c3
   clear c3
   obtain rfl := Option.some.inj H
   go_enter Tryd.func22, Tryd.ntmps22
   go_wp2_with (first | ((with_reducible refine gate_dst (N := 1) rfl ?_); refine box_event ?hg (N := 1) ?hd (cs := #[.int .i64 a0_0, .int .i64 a0_1, .int .i64 a0_2, .int .u64 a0_3, .string a0_4]) (t := 26) ?hr ?_; (case hd => rfl); (case hg => rfl); (case hr => first | (go_simp; done) | (go_simp; rfl)); intro gb252 hg w18 hbox hb; have n0_ := Ax.mk (bP bA hb); have n1_ := Ax.mk (hbox); have n2_ := Ax.mk ((ge_new hg : w.heap.size ≤ gb252)); have n3_ := n2_; clear HB; have HB := n0_; have BK252 := n1_; have GW252 := n2_; have GE252 := n3_; clear n0_ n1_ n2_ n3_; clear hb hbox hg; have hcz19_0 : w18.cell? ⟨gb252, 0, none⟩ = some (.int .i64 a0_0) := (bC BK252.out 0).trans rfl; have hcz19_1 : w18.cell? ⟨gb252, 1, none⟩ = some (.int .i64 a0_1) := (bC BK252.out 1).trans rfl; have hcz19_2 : w18.cell? ⟨gb252, 2, none⟩ = some (.int .i64 a0_2) := (bC BK252.out 2).trans rfl; have hcz19_3 : w18.cell? ⟨gb252, 3, none⟩ = some (.int .u64 a0_3) := (bC BK252.out 3).trans rfl; have hcz19_4 : w18.cell? ⟨gb252, 4, none⟩ = some (.string a0_4) := (bC BK252.out 4).trans rfl; have hfz19_0 := bF BK252.out 0; have hfz19_1 := bF BK252.out 1; have hfz19_2 := bF BK252.out 2; have hfz19_3 := bF BK252.out 3; have hfz19_4 := bF BK252.out 4))
   go_ret
   exact ⟨by first | rfl | (simp [errW_none, errW_some] <;> rfl) | (simp [*, errW_none, errW_some] <;> rfl), bA⟩
 ·rw [if_neg c2] at H
  have c2b0 : (a0_4.toList == ([] : List UInt8)) = false := beq_eq_false_iff_ne.mpr c2
  have c2b1 : (a0_4.toList != ([] : List UInt8)) = true := bne_iff_ne.mpr c2
  by_cases c20 : a0_0 = 1
  ·rw [if_pos c20] at H
   have c20b0 : (a0_0 == 1) = true := beq_iff_eq.mpr c20
   have c20b1 : (a0_0 != 1) = false := bne_eq_false_iff_eq.mpr c20
   clear c20
   replace H := Option.bind_eq_some_iff.mp H
   obtain ⟨t253, A210, H⟩ := H
   replace H : (if t253 = true then (if a0_0 ≥ 1 then (if a0_0 ≤ 8 then (if a0_1 ≥ 0 then (if a0_1 ≤ 2147483647 then (if a0_2 ≥ 0 then (some (decide (a0_2 ≤ 2147483647))) else (some false)) else (some false)) else (some false)) else (some false)) else (some false)) else (some false)) = some r := H
   have A21 := Ax.mk A210
   clear A210
   by_cases c22 : t253 = true
   ·subst c22
    have H1 : (if a0_0 ≥ 1 then (if a0_0 ≤ 8 then (if a0_1 ≥ 0 then (if a0_1 ≤ 2147483647 then (if a0_2 ≥ 0 then (some (decide (a0_2 ≤ 2147483647))) else (some false)) else (some false)) else (some false)) else (some false)) else (some false)) = some r := by rw [if_pos rfl] at H; exact H
    clear H
    have H := H1
    clear H1
    by_cases c23 : a0_0 ≥ 1
    ·rw [if_pos c23] at H
     have c23b0 : decide (1 ≤ a0_0) = true := decide_eq_true c23
     clear c23
     by_cases c24 : a0_0 ≤ 8
     ·rw [if_pos c24] at H
      have c24b0 : decide (a0_0 ≤ 8) = true := decide_eq_true c24
      clear c24
      by_cases c25 : a0_1 ≥ 0
      ·rw [if_pos c25] at H
       have c25b0 : decide (0 ≤ a0_1) = true := decide_eq_true c25
       clear c25
       by_cases c26 : a0_1 ≤ 2147483647
       ·rw [if_pos c26] at H
        have c26b0 : decide (a0_1 ≤ 2147483647) = true := decide_eq_true c26
        clear c26
        by_cases c27 : a0_2 ≥ 0
        ·rw [if_pos c27] at H
         have c27b0 : decide (0 ≤ a0_2) = true := decide_eq_true c27
         clear c27
         obtain rfl := Option.some.inj H
         go_enter Tryd.func22, Tryd.ntmps22
         go_wp2_with (first | ((with_reducible refine gate_dst (N := 1) rfl ?_); refine box_event ?hg (N := 1) ?hd (cs := #[.int .i64 a0_0, .int .i64 a0_1, .int .i64 a0_2, .int .u64 a0_3, .string a0_4]) (t := 26) ?hr ?_; (case hd => rfl); (case hg => rfl); (case hr => first | (go_simp; done) | (go_simp; rfl)); intro gb252 hg w28 hbox hb; have n0_ := Ax.mk (bP bA hb); have n1_ := Ax.mk (hbox); have n2_ := Ax.mk ((ge_new hg : w.heap.size ≤ gb252)); have n3_ := n2_; clear HB; have HB := n0_; have BK252 := n1_; have GW252 := n2_; have GE252 := n3_; clear n0_ n1_ n2_ n3_; clear hb hbox hg; have hcz29_0 : w28.cell? ⟨gb252, 0, none⟩ = some (.int .i64 a0_0) := (bC BK252.out 0).trans rfl; have hcz29_1 : w28.cell? ⟨gb252, 1, none⟩ = some (.int .i64 a0_1) := (bC BK252.out 1).trans rfl; have hcz29_2 : w28.cell? ⟨gb252, 2, none⟩ = some (.int .i64 a0_2) := (bC BK252.out 2).trans rfl; have hcz29_3 : w28.cell? ⟨gb252, 3, none⟩ = some (.int .u64 a0_3) := (bC BK252.out 3).trans rfl; have hcz29_4 : w28.cell? ⟨gb252, 4, none⟩ = some (.string a0_4) := (bC BK252.out 4).trans rfl; have hfz29_0 := bF BK252.out 0; have hfz29_1 := bF BK252.out 1; have hfz29_2 := bF BK252.out 2; have hfz29_3 := bF BK252.out 3; have hfz29_4 := bF BK252.out 4) | (go_at_call 52; (with_reducible refine (r1_Right.calls k a0_4 true _ A21.out).mono ?_); rintro e w' ⟨rfl, ⟨nd, rfl⟩⟩))
         go_ret
         exact ⟨by first | rfl | (simp [errW_none, errW_some] <;> rfl) | (simp [*, errW_none, errW_some] <;> rfl), bA⟩
        ·rw [if_neg c27] at H
         have c27b0 : decide (0 ≤ a0_2) = false := decide_eq_false c27
         clear c27
         obtain rfl := Option.some.inj H
         go_enter Tryd.func22, Tryd.ntmps22
         go_wp2_with (first | ((with_reducible refine gate_dst (N := 1) rfl ?_); refine box_event ?hg (N := 1) ?hd (cs := #[.int .i64 a0_0, .int .i64 a0_1, .int .i64 a0_2, .int .u64 a0_3, .string a0_4]) (t := 26) ?hr ?_; (case hd => rfl); (case hg => rfl); (case hr => first | (go_simp; done) | (go_simp; rfl)); intro gb252 hg w30 hbox hb; have n0_ := Ax.mk (bP bA hb); have n1_ := Ax.mk (hbox); have n2_ := Ax.mk ((ge_new hg : w.heap.size ≤ gb252)); have n3_ := n2_; clear HB; have HB := n0_; have BK252 := n1_; have GW252 := n2_; have GE252 := n3_; clear n0_ n1_ n2_ n3_; clear hb hbox hg; have hcz31_0 : w30.cell? ⟨gb252, 0, none⟩ = some (.int .i64 a0_0) := (bC BK252.out 0).trans rfl; have hcz31_1 : w30.cell? ⟨gb252, 1, none⟩ = some (.int .i64 a0_1) := (bC BK252.out 1).trans rfl; have hcz31_2 : w30.cell? ⟨gb252, 2, none⟩ = some (.int .i64 a0_2) := (bC BK252.out 2).trans rfl; have hcz31_3 : w30.cell? ⟨gb252, 3, none⟩ = some (.int .u64 a0_3) := (bC BK252.out 3).trans rfl; have hcz31_4 : w30.cell? ⟨gb252, 4, none⟩ = some (.string a0_4) := (bC BK252.out 4).trans rfl; have hfz31_0 := bF BK252.out 0; have hfz31_1 := bF BK252.out 1; have hfz31_2 := bF BK252.out 2; have hfz31_3 := bF BK252.out 3; have hfz31_4 := bF BK252.out 4) | (go_at_call 52; (with_reducible refine (r1_Right.calls k a0_4 true _ A21.out).mono ?_); rintro e w' ⟨rfl, ⟨nd, rfl⟩⟩))
         go_ret
         exact ⟨by first | rfl | (simp [errW_none, errW_some] <;> rfl) | (simp [*, errW_none, errW_some] <;> rfl), bA⟩
       ·rw [if_neg c26] at H
        have c26b0 : decide (a0_1 ≤ 2147483647) = false := decide_eq_false c26
        clear c26
        obtain rfl := Option.some.inj H
        go_enter Tryd.func22, Tryd.ntmps22
        go_wp2_with (first | ((with_reducible refine gate_dst (N := 1) rfl ?_); refine box_event ?hg (N := 1) ?hd (cs := #[.int .i64 a0_0, .int .i64 a0_1, .int .i64 a0_2, .int .u64 a0_3, .string a0_4]) (t := 26) ?hr ?_; (case hd => rfl); (case hg => rfl); (case hr => first | (go_simp; done) | (go_simp; rfl)); intro gb252 hg w32 hbox hb; have n0_ := Ax.mk (bP bA hb); have n1_ := Ax.mk (hbox); have n2_ := Ax.mk ((ge_new hg : w.heap.size ≤ gb252)); have n3_ := n2_; clear HB; have HB := n0_; have BK252 := n1_; have GW252 := n2_; have GE252 := n3_; clear n0_ n1_ n2_ n3_; clear hb hbox hg; have hcz33_0 : w32.cell? ⟨gb252, 0, none⟩ = some (.int .i64 a0_0) := (bC BK252.out 0).trans rfl; have hcz33_1 : w32.cell? ⟨gb252, 1, none⟩ = some (.int .i64 a0_1) := (bC BK252.out 1).trans rfl; have hcz33_2 : w32.cell? ⟨gb252, 2, none⟩ = some (.int .i64 a0_2) := (bC BK252.out 2).trans rfl; have hcz33_3 : w32.cell? ⟨gb252, 3, none⟩ = some (.int .u64 a0_3) := (bC BK252.out 3).trans rfl; have hcz33_4 : w32.cell? ⟨gb252, 4, none⟩ = some (.string a0_4) := (bC BK252.out 4).trans rfl; have hfz33_0 := bF BK252.out 0; have hfz33_1 := bF BK252.out 1; have hfz33_2 := bF BK252.out 2; have hfz33_3 := bF BK252.out 3; have hfz33_4 := bF BK252.out 4) | (go_at_call 52; (with_reducible refine (r1_Right.calls k a0_4 true _ A21.out).mono ?_); rintro e w' ⟨rfl, ⟨nd, rfl⟩⟩))
        go_ret
        exact ⟨by first | rfl | (simp [errW_none, errW_some] <;> rfl) | (simp [*, errW_none, errW_some] <;> rfl), bA⟩
      ·rw [if_neg c25] at H
       have c25b0 : decide (0 ≤ a0_1) = false := decide_eq_false c25
       clear c25
       obtain rfl := Option.some.inj H
       go_enter Tryd.func22, Tryd.ntmps22
       go_wp2_with (first | ((with_reducible refine gate_dst (N := 1) rfl ?_); refine box_event ?hg (N := 1) ?hd (cs := #[.int .i64 a0_0, .int .i64 a0_1, .int .i64 a0_2, .int .u64 a0_3, .string a0_4]) (t := 26) ?hr ?_; (case hd => rfl); (case hg => rfl); (case hr => first | (go_simp; done) | (go_simp; rfl)); intro gb252 hg w34 hbox hb; have n0_ := Ax.mk (bP bA hb); have n1_ := Ax.mk (hbox); have n2_ := Ax.mk ((ge_new hg : w.heap.size ≤ gb252)); have n3_ := n2_; clear HB; have HB := n0_; have BK252 := n1_; have GW252 := n2_; have GE252 := n3_; clear n0_ n1_ n2_ n3_; clear hb hbox hg; have hcz35_0 : w34.cell? ⟨gb252, 0, none⟩ = some (.int .i64 a0_0) := (bC BK252.out 0).trans rfl; have hcz35_1 : w34.cell? ⟨gb252, 1, none⟩ = some (.int .i64 a0_1) := (bC BK252.out 1).trans rfl; have hcz35_2 : w34.cell? ⟨gb252, 2, none⟩ = some (.int .i64 a0_2) := (bC BK252.out 2).trans rfl; have hcz35_3 : w34.cell? ⟨gb252, 3, none⟩ = some (.int .u64 a0_3) := (bC BK252.out 3).trans rfl; have hcz35_4 : w34.cell? ⟨gb252, 4, none⟩ = some (.string a0_4) := (bC BK252.out 4).trans rfl; have hfz35_0 := bF BK252.out 0; have hfz35_1 := bF BK252.out 1; have hfz35_2 := bF BK252.out 2; have hfz35_3 := bF BK252.out 3; have hfz35_4 := bF BK252.out 4) | (go_at_call 52; (with_reducible refine (r1_Right.calls k a0_4 true _ A21.out).mono ?_); rintro e w' ⟨rfl, ⟨nd, rfl⟩⟩))
       go_ret
       exact ⟨by first | rfl | (simp [errW_none, errW_some] <;> rfl) | (simp [*, errW_none, errW_some] <;> rfl), bA⟩
     ·rw [if_neg c24] at H
      have c24b0 : decide (a0_0 ≤ 8) = false := decide_eq_false c24
      clear c24
      obtain rfl := Option.some.inj H
      go_enter Tryd.func22, Tryd.ntmps22
      go_wp2_with (first | ((with_reducible refine gate_dst (N := 1) rfl ?_); refine box_event ?hg (N := 1) ?hd (cs := #[.int .i64 a0_0, .int .i64 a0_1, .int .i64 a0_2, .int .u64 a0_3, .string a0_4]) (t := 26) ?hr ?_; (case hd => rfl); (case hg => rfl); (case hr => first | (go_simp; done) | (go_simp; rfl)); intro gb252 hg w36 hbox hb; have n0_ := Ax.mk (bP bA hb); have n1_ := Ax.mk (hbox); have n2_ := Ax.mk ((ge_new hg : w.heap.size ≤ gb252)); have n3_ := n2_; clear HB; have HB := n0_; have BK252 := n1_; have GW252 := n2_; have GE252 := n3_; clear n0_ n1_ n2_ n3_; clear hb hbox hg; have hcz37_0 : w36.cell? ⟨gb252, 0, none⟩ = some (.int .i64 a0_0) := (bC BK252.out 0).trans rfl; have hcz37_1 : w36.cell? ⟨gb252, 1, none⟩ = some (.int .i64 a0_1) := (bC BK252.out 1).trans rfl; have hcz37_2 : w36.cell? ⟨gb252, 2, none⟩ = some (.int .i64 a0_2) := (bC BK252.out 2).trans rfl; have hcz37_3 : w36.cell? ⟨gb252, 3, none⟩ = some (.int .u64 a0_3) := (bC BK252.out 3).trans rfl; have hcz37_4 : w36.cell? ⟨gb252, 4, none⟩ = some (.string a0_4) := (bC BK252.out 4).trans rfl; have hfz37_0 := bF BK252.out 0; have hfz37_1 := bF BK252.out 1; have hfz37_2 := bF BK252.out 2; have hfz37_3 := bF BK252.out 3; have hfz37_4 := bF BK252.out 4) | (go_at_call 52; (with_reducible refine (r1_Right.calls k a0_4 true _ A21.out).mono ?_); rintro e w' ⟨rfl, ⟨nd, rfl⟩⟩))
      go_ret
      exact ⟨by first | rfl | (simp [errW_none, errW_some] <;> rfl) | (simp [*, errW_none, errW_some] <;> rfl), bA⟩
    ·rw [if_neg c23] at H
     have c23b0 : decide (1 ≤ a0_0) = false := decide_eq_false c23
     clear c23
     obtain rfl := Option.some.inj H
     go_enter Tryd.func22, Tryd.ntmps22
     go_wp2_with (first | ((with_reducible refine gate_dst (N := 1) rfl ?_); refine box_event ?hg (N := 1) ?hd (cs := #[.int .i64 a0_0, .int .i64 a0_1, .int .i64 a0_2, .int .u64 a0_3, .string a0_4]) (t := 26) ?hr ?_; (case hd => rfl); (case hg => rfl); (case hr => first | (go_simp; done) | (go_simp; rfl)); intro gb252 hg w38 hbox hb; have n0_ := Ax.mk (bP bA hb); have n1_ := Ax.mk (hbox); have n2_ := Ax.mk ((ge_new hg : w.heap.size ≤ gb252)); have n3_ := n2_; clear HB; have HB := n0_; have BK252 := n1_; have GW252 := n2_; have GE252 := n3_; clear n0_ n1_ n2_ n3_; clear hb hbox hg; have hcz39_0 : w38.cell? ⟨gb252, 0, none⟩ = some (.int .i64 a0_0) := (bC BK252.out 0).trans rfl; have hcz39_1 : w38.cell? ⟨gb252, 1, none⟩ = some (.int .i64 a0_1) := (bC BK252.out 1).trans rfl; have hcz39_2 : w38.cell? ⟨gb252, 2, none⟩ = some (.int .i64 a0_2) := (bC BK252.out 2).trans rfl; have hcz39_3 : w38.cell? ⟨gb252, 3, none⟩ = some (.int .u64 a0_3) := (bC BK252.out 3).trans rfl; have hcz39_4 : w38.cell? ⟨gb252, 4, none⟩ = some (.string a0_4) := (bC BK252.out 4).trans rfl; have hfz39_0 := bF BK252.out 0; have hfz39_1 := bF BK252.out 1; have hfz39_2 := bF BK252.out 2; have hfz39_3 := bF BK252.out 3; have hfz39_4 := bF BK252.out 4) | (go_at_call 52; (with_reducible refine (r1_Right.calls k a0_4 true _ A21.out).mono ?_); rintro e w' ⟨rfl, ⟨nd, rfl⟩⟩))
     go_ret
     exact ⟨by first | rfl | (simp [errW_none, errW_some] <;> rfl) | (simp [*, errW_none, errW_some] <;> rfl), bA⟩
   ·replace c22 := Bool.eq_false_iff.mpr c22
    subst c22
    have H1 : (some false) = some r := by rw [if_neg (show ¬ (false = true) by decide)] at H; exact H
    clear H
    have H := H1
    clear H1
    obtain rfl := Option.some.inj H
    go_enter Tryd.func22, Tryd.ntmps22
    go_wp2_with (first | ((with_reducible refine gate_dst (N := 1) rfl ?_); refine box_event ?hg (N := 1) ?hd (cs := #[.int .i64 a0_0, .int .i64 a0_1, .int .i64 a0_2, .int .u64 a0_3, .string a0_4]) (t := 26) ?hr ?_; (case hd => rfl); (case hg => rfl); (case hr => first | (go_simp; done) | (go_simp; rfl)); intro gb252 hg w40 hbox hb; have n0_ := Ax.mk (bP bA hb); have n1_ := Ax.mk (hbox); have n2_ := Ax.mk ((ge_new hg : w.heap.size ≤ gb252)); have n3_ := n2_; clear HB; have HB := n0_; have BK252 := n1_; have GW252 := n2_; have GE252 := n3_; clear n0_ n1_ n2_ n3_; clear hb hbox hg; have hcz41_0 : w40.cell? ⟨gb252, 0, none⟩ = some (.int .i64 a0_0) := (bC BK252.out 0).trans rfl; have hcz41_1 : w40.cell? ⟨gb252, 1, none⟩ = some (.int .i64 a0_1) := (bC BK252.out 1).trans rfl; have hcz41_2 : w40.cell? ⟨gb252, 2, none⟩ = some (.int .i64 a0_2) := (bC BK252.out 2).trans rfl; have hcz41_3 : w40.cell? ⟨gb252, 3, none⟩ = some (.int .u64 a0_3) := (bC BK252.out 3).trans rfl; have hcz41_4 : w40.cell? ⟨gb252, 4, none⟩ = some (.string a0_4) := (bC BK252.out 4).trans rfl; have hfz41_0 := bF BK252.out 0; have hfz41_1 := bF BK252.out 1; have hfz41_2 := bF BK252.out 2; have hfz41_3 := bF BK252.out 3; have hfz41_4 := bF BK252.out 4) | (go_at_call 52; (with_reducible refine (r1_Right.calls k a0_4 false _ A21.out).mono ?_); rintro e w' ⟨rfl, ⟨nd, rfl⟩⟩))
    go_ret
    exact ⟨by first | rfl | (simp [errW_none, errW_some] <;> rfl) | (simp [*, errW_none, errW_some] <;> rfl), bA⟩
  ·rw [if_neg c20] at H
   have c20b0 : (a0_0 == 1) = false := beq_eq_false_iff_ne.mpr c20
   have c20b1 : (a0_0 != 1) = true := bne_iff_ne.mpr c20
   obtain rfl := Option.some.inj H
   go_enter Tryd.func22, Tryd.ntmps22
   go_wp2_with (first | ((with_reducible refine gate_dst (N := 1) rfl ?_); refine box_event ?hg (N := 1) ?hd (cs := #[.int .i64 a0_0, .int .i64 a0_1, .int .i64 a0_2, .int .u64 a0_3, .string a0_4]) (t := 26) ?hr ?_; (case hd => rfl); (case hg => rfl); (case hr => first | (go_simp; done) | (go_simp; rfl)); intro gb252 hg w42 hbox hb; have n0_ := Ax.mk (bP bA hb); have n1_ := Ax.mk (hbox); have n2_ := Ax.mk ((ge_new hg : w.heap.size ≤ gb252)); have n3_ := n2_; clear HB; have HB := n0_; have BK252 := n1_; have GW252 := n2_; have GE252 := n3_; clear n0_ n1_ n2_ n3_; clear hb hbox hg; have hcz43_0 : w42.cell? ⟨gb252, 0, none⟩ = some (.int .i64 a0_0) := (bC BK252.out 0).trans rfl; have hcz43_1 : w42.cell? ⟨gb252, 1, none⟩ = some (.int .i64 a0_1) := (bC BK252.out 1).trans rfl; have hcz43_2 : w42.cell? ⟨gb252, 2, none⟩ = some (.int .i64 a0_2) := (bC BK252.out 2).trans rfl; have hcz43_3 : w42.cell? ⟨gb252, 3, none⟩ = some (.int .u64 a0_3) := (bC BK252.out 3).trans rfl; have hcz43_4 : w42.cell? ⟨gb252, 4, none⟩ = some (.string a0_4) := (bC BK252.out 4).trans rfl; have hfz43_0 := bF BK252.out 0; have hfz43_1 := bF BK252.out 1; have hfz43_2 := bF BK252.out 2; have hfz43_3 := bF BK252.out 3; have hfz43_4 := bF BK252.out 4))
   go_ret
   exact ⟨by first | rfl | (simp [errW_none, errW_some] <;> rfl) | (simp [*, errW_none, errW_some] <;> rfl), bA⟩
def r12_Put.f (k : Nat) (a0_0 : Int) (a0_1 : Int) (a0_2 : Int) (a0_3 : Int) (a0_4 : ByteArray) : Option (ByteArray × Int) := (r12_Right.f k a0_0 a0_1 a0_2 a0_3 a0_4).bind fun t260 => (if t260 = true then ((r2_Put.f k (IntKind.u64.wrap (a0_0)) 1).bind fun t261 => ((r2_Put.f k (IntKind.u64.wrap (a0_1)) 4).bind fun t262 => (if t261.size + t262.size ≤ 9223372036854775807 then ((r2_Put.f k (IntKind.u64.wrap (a0_2)) 4).bind fun t263 => (if t261.size + t262.size + t263.size ≤ 9223372036854775807 then ((r2_Put.f k a0_3 8).bind fun t264 => (if t261.size + t262.size + t263.size + t264.size ≤ 9223372036854775807 then (if t261.size + t262.size + t263.size + t264.size + a0_4.size ≤ 9223372036854775807 then ((r3_Put.f k ((((t261 ++ t262) ++ t263) ++ t264) ++ a0_4)).bind fun t265 => ((r2_Put.f k (IntKind.u64.wrap ((t265.size : Int))) 2).bind fun t266 => (if t266.size + t265.size ≤ 9223372036854775807 then (some (t266 ++ t265, 0)) else (none)))) else (none)) else (none))) else (none))) else (none)))) else (some ((⟨#[]⟩ : ByteArray), 1)))
theorem r12_Put.mono : ∀ a0 a1 a2 a3 a4 k, LeO (r12_Put.f k a0 a1 a2 a3 a4) (r12_Put.f (k + 1) a0 a1 a2 a3 a4) := by
 intro a0 a1 a2 a3 a4 k
 unfold r12_Put.f
 repeat' first
   | (with_reducible exact r12_Right.mono _ _ _ _ _ _)
   | (with_reducible exact r2_Put.mono _ _ _)
   | (with_reducible exact r3_Put.mono _ _)
   | (with_reducible exact LeO.refl _)
   | (with_reducible exact LeO.none _)
   | (with_reducible refine LeO.ite ?_ ?_)
   | (with_reducible refine LeO.bind ?_ (fun _ => ?_))
   | exact r12_Right.mono _ _ _ _ _ _
   | exact r2_Put.mono _ _ _
   | exact r3_Put.mono _ _
   | exact LeO.none _
   | refine LeO.ite ?_ ?_
   | refine LeO.bind ?_ (fun _ => ?_)
def r12_Put.T4 : Bool × List (List Nat × List Nat) := (true, [([], []), ([0], [0]), ([1], [1]), ([2], [2]), ([], []), ([4], [4]), ([5], [5]), ([6, 3], [6]), ([3, 7], [3, 7]), ([], []), ([9], [9]), ([10], [10]), ([11, 7], [11]), ([8, 12], [8, 12]), ([], []), ([14], [14]), ([15, 12], [15]), ([13, 16], [13, 16]), ([], []), ([18], [18]), ([17, 19], [17, 19]), ([20, 16], [20]), ([21, 21, 0, 1, 2, 3, 4, 5, 6, 7, 8, 9, 10, 11, 12, 13, 14, 15, 16, 17, 18, 19, 20, 21], [21])])
def r12_Put.B4 : List Nat := [0, 1, 3, 7, 0, 16, 48, 127, 255, 0, 512, 1536, 3839, 8191, 0, 16384, 57087, 131071, 0, 262144, 1048575, 2097151, 4194303]
theorem r12_Put.tab4 : rtab .any (opsOf Tryd.f20 4) = r12_Put.T4 := by kernel_rfl
theorem r12_Put.bits4 : waitsOk r12_Put.T4.2 r12_Put.B4 = true := by kernel_rfl
set_option maxHeartbeats 8000000 in
set_option maxRecDepth 100000 in
theorem r12_Put.calls (k : Nat) (a0_0 : Int) (a0_1 : Int) (a0_2 : Int) (a0_3 : Int) (a0_4 : ByteArray) (r1 : ByteArray) (r2 : Int) (w : World) (h : r12_Put.f k a0_0 a0_1 a0_2 a0_3 a0_4 = some (r1, r2)) :
  Calls Tryd.prog 20 #[.agg #[.int .i64 a0_0, .int .i64 a0_1, .int .i64 a0_2, .int .u64 a0_3, .string a0_4]] w fun e w' => e = .returned (.tuple #[.string r1, .int .i64 r2]) ∧ Below w.heap.size w w' := by
 have hu26 := Tryd.underlying26
 have HB := Ax.mk (Below.refl w.heap.size w)
 have H : ((r12_Right.f k a0_0 a0_1 a0_2 a0_3 a0_4).bind fun t260 => (if t260 = true then ((r2_Put.f k (IntKind.u64.wrap (a0_0)) 1).bind fun t261 => ((r2_Put.f k (IntKind.u64.wrap (a0_1)) 4).bind fun t262 => (if t261.size + t262.size ≤ 9223372036854775807 then ((r2_Put.f k (IntKind.u64.wrap (a0_2)) 4).bind fun t263 => (if t261.size + t262.size + t263.size ≤ 9223372036854775807 then ((r2_Put.f k a0_3 8).bind fun t264 => (if t261.size + t262.size + t263.size + t264.size ≤ 9223372036854775807 then (if t261.size + t262.size + t263.size + t264.size + a0_4.size ≤ 9223372036854775807 then ((r3_Put.f k ((((t261 ++ t262) ++ t263) ++ t264) ++ a0_4)).bind fun t265 => ((r2_Put.f k (IntKind.u64.wrap ((t265.size : Int))) 2).bind fun t266 => (if t266.size + t265.size ≤ 9223372036854775807 then (some (t266 ++ t265, 0)) else (none)))) else (none)) else (none))) else (none))) else (none)))) else (some ((⟨#[]⟩ : ByteArray), 1)))) = some (r1, r2) := h
 clear h
 replace H := Option.bind_eq_some_iff.mp H
 obtain ⟨t260, A20, H⟩ := H
 replace H : (if t260 = true then ((r2_Put.f k (IntKind.u64.wrap (a0_0)) 1).bind fun t261 => ((r2_Put.f k (IntKind.u64.wrap (a0_1)) 4).bind fun t262 => (if t261.size + t262.size ≤ 9223372036854775807 then ((r2_Put.f k (IntKind.u64.wrap (a0_2)) 4).bind fun t263 => (if t261.size + t262.size + t263.size ≤ 9223372036854775807 then ((r2_Put.f k a0_3 8).bind fun t264 => (if t261.size + t262.size + t263.size + t264.size ≤ 9223372036854775807 then (if t261.size + t262.size + t263.size + t264.size + a0_4.size ≤ 9223372036854775807 then ((r3_Put.f k ((((t261 ++ t262) ++ t263) ++ t264) ++ a0_4)).bind fun t265 => ((r2_Put.f k (IntKind.u64.wrap ((t265.size : Int))) 2).bind fun t266 => (if t266.size + t265.size ≤ 9223372036854775807 then (some (t266 ++ t265, 0)) else (none)))) else (none)) else (none))) else (none))) else (none)))) else (some ((⟨#[]⟩ : ByteArray), 1))) = some (r1, r2) := H
 have A2 := Ax.mk A20
 clear A20
 by_cases c3 : t260 = true
 ·subst c3
  have H1 : ((r2_Put.f k (IntKind.u64.wrap (a0_0)) 1).bind fun t261 => ((r2_Put.f k (IntKind.u64.wrap (a0_1)) 4).bind fun t262 => (if t261.size + t262.size ≤ 9223372036854775807 then ((r2_Put.f k (IntKind.u64.wrap (a0_2)) 4).bind fun t263 => (if t261.size + t262.size + t263.size ≤ 9223372036854775807 then ((r2_Put.f k a0_3 8).bind fun t264 => (if t261.size + t262.size + t263.size + t264.size ≤ 9223372036854775807 then (if t261.size + t262.size + t263.size + t264.size + a0_4.size ≤ 9223372036854775807 then ((r3_Put.f k ((((t261 ++ t262) ++ t263) ++ t264) ++ a0_4)).bind fun t265 => ((r2_Put.f k (IntKind.u64.wrap ((t265.size : Int))) 2).bind fun t266 => (if t266.size + t265.size ≤ 9223372036854775807 then (some (t266 ++ t265, 0)) else (none)))) else (none)) else (none))) else (none))) else (none)))) = some (r1, r2) := by rw [if_pos rfl] at H; exact H
  clear H
  have H := H1
  clear H1
  replace H := Option.bind_eq_some_iff.mp H
  obtain ⟨t261, A40, H⟩ := H
  replace H : ((r2_Put.f k (IntKind.u64.wrap (a0_1)) 4).bind fun t262 => (if t261.size + t262.size ≤ 9223372036854775807 then ((r2_Put.f k (IntKind.u64.wrap (a0_2)) 4).bind fun t263 => (if t261.size + t262.size + t263.size ≤ 9223372036854775807 then ((r2_Put.f k a0_3 8).bind fun t264 => (if t261.size + t262.size + t263.size + t264.size ≤ 9223372036854775807 then (if t261.size + t262.size + t263.size + t264.size + a0_4.size ≤ 9223372036854775807 then ((r3_Put.f k ((((t261 ++ t262) ++ t263) ++ t264) ++ a0_4)).bind fun t265 => ((r2_Put.f k (IntKind.u64.wrap ((t265.size : Int))) 2).bind fun t266 => (if t266.size + t265.size ≤ 9223372036854775807 then (some (t266 ++ t265, 0)) else (none)))) else (none)) else (none))) else (none))) else (none))) = some (r1, r2) := H
  have A4 := Ax.mk A40
  clear A40
  replace H := Option.bind_eq_some_iff.mp H
  obtain ⟨t262, A50, H⟩ := H
  replace H : (if t261.size + t262.size ≤ 9223372036854775807 then ((r2_Put.f k (IntKind.u64.wrap (a0_2)) 4).bind fun t263 => (if t261.size + t262.size + t263.size ≤ 9223372036854775807 then ((r2_Put.f k a0_3 8).bind fun t264 => (if t261.size + t262.size + t263.size + t264.size ≤ 9223372036854775807 then (if t261.size + t262.size + t263.size + t264.size + a0_4.size ≤ 9223372036854775807 then ((r3_Put.f k ((((t261 ++ t262) ++ t263) ++ t264) ++ a0_4)).bind fun t265 => ((r2_Put.f k (IntKind.u64.wrap ((t265.size : Int))) 2).bind fun t266 => (if t266.size + t265.size ≤ 9223372036854775807 then (some (t266 ++ t265, 0)) else (none)))) else (none)) else (none))) else (none))) else (none)) = some (r1, r2) := H
  have A5 := Ax.mk A50
  clear A50
  by_cases c6 : t261.size + t262.size ≤ 9223372036854775807
  ·rw [if_pos c6] at H
   have c6b0 := eq_true c6
   have c6b1 : decide (t261.size + t262.size ≤ 9223372036854775807) = true := decide_eq_true c6
   try have c6b2 : (9223372036854775807 < t261.size + t262.size) = False := eq_false (Nat.not_lt.2 c6)
   replace H := Option.bind_eq_some_iff.mp H
   obtain ⟨t263, A70, H⟩ := H
   replace H : (if t261.size + t262.size + t263.size ≤ 9223372036854775807 then ((r2_Put.f k a0_3 8).bind fun t264 => (if t261.size + t262.size + t263.size + t264.size ≤ 9223372036854775807 then (if t261.size + t262.size + t263.size + t264.size + a0_4.size ≤ 9223372036854775807 then ((r3_Put.f k ((((t261 ++ t262) ++ t263) ++ t264) ++ a0_4)).bind fun t265 => ((r2_Put.f k (IntKind.u64.wrap ((t265.size : Int))) 2).bind fun t266 => (if t266.size + t265.size ≤ 9223372036854775807 then (some (t266 ++ t265, 0)) else (none)))) else (none)) else (none))) else (none)) = some (r1, r2) := H
   have A7 := Ax.mk A70
   clear A70
   by_cases c8 : t261.size + t262.size + t263.size ≤ 9223372036854775807
   ·rw [if_pos c8] at H
    have c8b0 := eq_true c8
    have c8b1 : decide (t261.size + t262.size + t263.size ≤ 9223372036854775807) = true := decide_eq_true c8
    try have c8b2 : (9223372036854775807 < t261.size + t262.size + t263.size) = False := eq_false (Nat.not_lt.2 c8)
    replace H := Option.bind_eq_some_iff.mp H
    obtain ⟨t264, A90, H⟩ := H
    replace H : (if t261.size + t262.size + t263.size + t264.size ≤ 9223372036854775807 then (if t261.size + t262.size + t263.size + t264.size + a0_4.size ≤ 9223372036854775807 then ((r3_Put.f k ((((t261 ++ t262) ++ t263) ++ t264) ++ a0_4)).bind fun t265 => ((r2_Put.f k (IntKind.u64.wrap ((t265.size : Int))) 2).bind fun t266 => (if t266.size + t265.size ≤ 9223372036854775807 then (some (t266 ++ t265, 0)) else (none)))) else (none)) else (none)) = some (r1, r2) := H
    have A9 := Ax.mk A90
    clear A90
    by_cases c10 : t261.size + t262.size + t263.size + t264.size ≤ 9223372036854775807
    ·rw [if_pos c10] at H
     have c10b0 := eq_true c10
     have c10b1 : decide (t261.size + t262.size + t263.size + t264.size ≤ 9223372036854775807) = true := decide_eq_true c10
     try have c10b2 : (9223372036854775807 < t261.size + t262.size + t263.size + t264.size) = False := eq_false (Nat.not_lt.2 c10)
     by_cases c11 : t261.size + t262.size + t263.size + t264.size + a0_4.size ≤ 9223372036854775807
     ·rw [if_pos c11] at H
      have c11b0 := eq_true c11
      have c11b1 : decide (t261.size + t262.size + t263.size + t264.size + a0_4.size ≤ 9223372036854775807) = true := decide_eq_true c11
      try have c11b2 : (9223372036854775807 < t261.size + t262.size + t263.size + t264.size + a0_4.size) = False := eq_false (Nat.not_lt.2 c11)
      replace H := Option.bind_eq_some_iff.mp H
      obtain ⟨t265, A120, H⟩ := H
      replace H : ((r2_Put.f k (IntKind.u64.wrap ((t265.size : Int))) 2).bind fun t266 => (if t266.size + t265.size ≤ 9223372036854775807 then (some (t266 ++ t265, 0)) else (none))) = some (r1, r2) := H
      have A12 := Ax.mk A120
      clear A120
      replace H := Option.bind_eq_some_iff.mp H
      obtain ⟨t266, A130, H⟩ := H
      replace H : (if t266.size + t265.size ≤ 9223372036854775807 then (some (t266 ++ t265, 0)) else (none)) = some (r1, r2) := H
      have A13 := Ax.mk A130
      clear A130
      by_cases c14 : t266.size + t265.size ≤ 9223372036854775807
      ·rw [if_pos c14] at H
       have c14b0 := eq_true c14
       have c14b1 : decide (t266.size + t265.size ≤ 9223372036854775807) = true := decide_eq_true c14
       try have c14b2 : (9223372036854775807 < t266.size + t265.size) = False := eq_false (Nat.not_lt.2 c14)
       simp only [Option.some.injEq, Prod.mk.injEq] at H
       obtain ⟨rfl, rfl⟩ := H
       go_enter Tryd.func20, Tryd.ntmps20
       try go_wp2_with (first | ((with_reducible refine gate_dst (N := 1) rfl ?_); refine box_event ?hg (N := 1) ?hd (cs := #[.int .i64 a0_0, .int .i64 a0_1, .int .i64 a0_2, .int .u64 a0_3, .string a0_4]) (t := 26) ?hr ?_; (case hd => rfl); (case hg => rfl); (case hr => first | (go_simp; done) | (go_simp; rfl)); intro gb259 hg w15 hbox hb; have n0_ := Ax.mk (bP bA hb); have n1_ := Ax.mk (hbox); have n2_ := Ax.mk ((ge_new hg : w.heap.size ≤ gb259)); have n3_ := n2_; clear HB; have HB := n0_; have BK259 := n1_; have GW259 := n2_; have GE259 := n3_; clear n0_ n1_ n2_ n3_; clear hb hbox hg; have hcz16_0 : w15.cell? ⟨gb259, 0, none⟩ = some (.int .i64 a0_0) := (bC BK259.out 0).trans rfl; have hcz16_1 : w15.cell? ⟨gb259, 1, none⟩ = some (.int .i64 a0_1) := (bC BK259.out 1).trans rfl; have hcz16_2 : w15.cell? ⟨gb259, 2, none⟩ = some (.int .i64 a0_2) := (bC BK259.out 2).trans rfl; have hcz16_3 : w15.cell? ⟨gb259, 3, none⟩ = some (.int .u64 a0_3) := (bC BK259.out 3).trans rfl; have hcz16_4 : w15.cell? ⟨gb259, 4, none⟩ = some (.string a0_4) := (bC BK259.out 4).trans rfl; have hfz16_0 := bF BK259.out 0; have hfz16_1 := bF BK259.out 1; have hfz16_2 := bF BK259.out 2; have hfz16_3 := bF BK259.out 3; have hfz16_4 := bF BK259.out 4) | ((with_reducible refine gate_callee (f := 22) rfl ?_); refine goesL_ (some 7) rfl rfl Tryd.func22 (by kernel_rfl) rfl #[.agg #[.int .i64 a0_0, .int .i64 a0_1, .int .i64 a0_2, .int .u64 a0_3, .string a0_4]] rfl (by (try simp only [List.map_toArray, List.map_cons, List.map_nil]); first | done | rfl | (simp only [List.length_drop, List.length_take]; rfl) | (rw [wrap_sum2 (by assumption)]; rfl)) ?_; (with_reducible refine (r12_Right.calls k a0_0 a0_1 a0_2 a0_3 a0_4 true _ A2.out).mono ?_); rintro e w17 ⟨rfl, hb⟩; refine ⟨_, rfl, ?_⟩; have n0_ := Ax.mk (bB (bT BK259.out) hb); have n1_ := Ax.mk (bP bA hb); clear BK259; clear HB; have BK259 := n0_; have HB := n1_; clear n0_ n1_; (try clear hb); (try clear hb2); (try clear hk); (try clear hi)))
       have n0_ := Ax.mk (blk_drew BK259.out)
       have n1_ := Ax.mk (below_drew1 HB.out)
       clear BK259
       clear HB
       have BK259 := n0_
       have HB := n1_
       clear n0_ n1_
       refine start_ (n := 23) (S := fun w' => w'.cell? ⟨gb259, 0, none⟩ = some (.int .i64 a0_0) ∧ w'.cell? ⟨gb259, 1, none⟩ = some (.int .i64 a0_1) ∧ w'.cell? ⟨gb259, 2, none⟩ = some (.int .i64 a0_2) ∧ w'.cell? ⟨gb259, 3, none⟩ = some (.int .u64 a0_3) ∧ w'.cell? ⟨gb259, 4, none⟩ = some (.string a0_4)) (ds := []) (TF 0 23) (by kernel_rfl) rfl rfl ⟨(bC BK259.out 0).trans rfl, (bC BK259.out 1).trans rfl, (bC BK259.out 2).trans rfl, (bC BK259.out 3).trans rfl, (bC BK259.out 4).trans rfl⟩ (fun hHeld => ?_); refine with_tabW r12_Put.tab4 r12_Put.bits4 (fun HT_ HW_ => ?_)
       generalize w17.drew = w18 at BK259 HB hHeld ⊢
       refine pure_ (i := 0) (N := some 10) (v := ?_) (a' := ?_) (TF 1 22) rfl rfl (any_of HT_.out (by kernel_rfl)) (fun _ _ _ h => h) (Or.inl ⟨by rfl, ?_⟩) ?_ ?_
       rotate_left; · intro w'; go_simp; with_reducible rfl
       rotate_left; · simp only [Act.put, sI, sZ, sS, i64_w, i32_w]; rfl
       refine pure_ (i := 4) (N := some 14) (v := ?_) (a' := ?_) (BT 23 17) rfl rfl (any_of HT_.out (by kernel_rfl)) (fun _ _ _ h => h) (Or.inl ⟨by rfl, ?_⟩) ?_ ?_
       rotate_left; · intro w'; go_simp; with_reducible rfl
       rotate_left; · simp only [Act.put, sI, sZ, sS, i64_w, i32_w]; rfl
       refine pure_ (i := 9) (N := some 19) (v := ?_) (a' := ?_) (BT 23 529) rfl rfl (any_of HT_.out (by kernel_rfl)) (fun _ _ _ h => h) (Or.inl ⟨by rfl, ?_⟩) ?_ ?_
       rotate_left; · intro w'; go_simp; with_reducible rfl
       rotate_left; · simp only [Act.put, sI, sZ, sS, i64_w, i32_w]; rfl
       refine pure_ (i := 14) (N := some 24) (v := ?_) (a' := ?_) (BT 23 16913) rfl rfl (any_of HT_.out (by kernel_rfl)) (fun _ _ _ h => h) (Or.inl ⟨by rfl, ?_⟩) ?_ ?_
       rotate_left; · intro w'; go_simp; with_reducible rfl
       rotate_left; · simp only [Act.put, sI, sZ, sS, i64_w, i32_w]; rfl
       refine pure_ (i := 18) (N := some 28) (v := ?_) (a' := ?_) (BT 23 279057) rfl rfl (any_of HT_.out (by kernel_rfl)) (fun _ _ _ h => h) (Or.inl ⟨by rfl, ?_⟩) ?_ ?_
       rotate_left; · intro w'; go_simp; with_reducible rfl
       rotate_left; · simp only [Act.put, sI, sZ, sS, i64_w, i32_w]; rfl
       refine take_ (i := 1) (N := some 11) (v := ?_) (a' := ?_) (BT 23 279059) rfl rfl (take_ofW HT_.out HW_.out (by kernel_rfl)) (fun _ _ _ h => h) (Or.inl ⟨by rfl, ?_⟩) hHeld ?_ ?_
       rotate_left
       ·rintro w' ⟨s0, s1, s2, s3, s4⟩
        go_simp
        with_reducible rfl
       rotate_left
       ·simp only [Act.put, sI, sZ, sS, i64_w, i32_w]
        rfl
       refine pure_ (i := 2) (N := some 12) (v := ?_) (a' := ?_) (BT 23 279063) rfl rfl (any_of HT_.out (by kernel_rfl)) (fun _ _ _ h => h) (Or.inl ⟨by rfl, ?_⟩) ?_ ?_
       rotate_left; · intro w'; go_simp; with_reducible rfl
       rotate_left; · simp only [Act.put, sI, sZ, sS, i64_w, i32_w]; rfl
       refine take_ (i := 5) (N := some 15) (v := ?_) (a' := ?_) (BT 23 279095) rfl rfl (take_ofW HT_.out HW_.out (by kernel_rfl)) (fun _ _ _ h => h) (Or.inl ⟨by rfl, ?_⟩) hHeld ?_ ?_
       rotate_left
       ·rintro w' ⟨s0, s1, s2, s3, s4⟩
        go_simp
        with_reducible rfl
       rotate_left
       ·simp only [Act.put, sI, sZ, sS, i64_w, i32_w]
        rfl
       refine pure_ (i := 6) (N := some 16) (v := ?_) (a' := ?_) (BT 23 279159) rfl rfl (any_of HT_.out (by kernel_rfl)) (fun _ _ _ h => h) (Or.inl ⟨by rfl, ?_⟩) ?_ ?_
       rotate_left; · intro w'; go_simp; with_reducible rfl
       rotate_left; · simp only [Act.put, sI, sZ, sS, i64_w, i32_w]; rfl
       refine take_ (i := 10) (N := some 20) (v := ?_) (a' := ?_) (BT 23 280183) rfl rfl (take_ofW HT_.out HW_.out (by kernel_rfl)) (fun _ _ _ h => h) (Or.inl ⟨by rfl, ?_⟩) hHeld ?_ ?_
       rotate_left
       ·rintro w' ⟨s0, s1, s2, s3, s4⟩
        go_simp
        with_reducible rfl
       rotate_left
       ·simp only [Act.put, sI, sZ, sS, i64_w, i32_w]
        rfl
       refine pure_ (i := 11) (N := some 21) (v := ?_) (a' := ?_) (BT 23 282231) rfl rfl (any_of HT_.out (by kernel_rfl)) (fun _ _ _ h => h) (Or.inl ⟨by rfl, ?_⟩) ?_ ?_
       rotate_left; · intro w'; go_simp; with_reducible rfl
       rotate_left; · simp only [Act.put, sI, sZ, sS, i64_w, i32_w]; rfl
       refine take_ (i := 15) (N := some 25) (v := ?_) (a' := ?_) (BT 23 314999) rfl rfl (take_ofW HT_.out HW_.out (by kernel_rfl)) (fun _ _ _ h => h) (Or.inl ⟨by rfl, ?_⟩) hHeld ?_ ?_
       rotate_left
       ·rintro w' ⟨s0, s1, s2, s3, s4⟩
        go_simp
        with_reducible rfl
       rotate_left
       ·simp only [Act.put, sI, sZ, sS, i64_w, i32_w]
        rfl
       refine take_ (i := 19) (N := some 29) (v := ?_) (a' := ?_) (BT 23 839287) rfl rfl (take_ofW HT_.out HW_.out (by kernel_rfl)) (fun _ _ _ h => h) (Or.inl ⟨by rfl, ?_⟩) hHeld ?_ ?_
       rotate_left
       ·rintro w' ⟨s0, s1, s2, s3, s4⟩
        go_simp
        with_reducible rfl
       rotate_left
       ·simp only [Act.put, sI, sZ, sS, i64_w, i32_w]
        rfl
       refine one_ (i := 3) (N := some 13) (BT 23 839295) rfl rfl (one_of HT_.out (by kernel_rfl)) (by decide) (fun K hK => ?_)
       refine goes_ Tryd.func49 (by kernel_rfl) rfl #[.int .u64 (IntKind.u64.wrap (a0_0)), .int .i64 1] (by rfl) rfl rfl (by (try simp only [List.map_toArray, List.map_cons, List.map_nil]); first | done | rfl | (simp only [List.length_drop, List.length_take]; rfl) | (rw [wrap_sum2 (by assumption)]; rfl)) ?_
       with_reducible refine (r2_Put.calls k (IntKind.u64.wrap (a0_0)) 1 t261 _ A4.out).mono ?_
       rintro e w19 ⟨rfl, hb⟩
       refine ⟨_, rfl, ?_⟩
       have n0_ := Ax.mk (bB (bT BK259.out) hb)
       have n1_ := Ax.mk (bP bA hb)
       clear BK259
       clear HB
       have BK259 := n0_
       have HB := n1_
       clear n0_ n1_
       (try clear hb)
       (try clear hb2)
       (try clear hk)
       (try clear hi)
       refine hK.out _ _ ⟨(bC BK259.out 0).trans rfl, (bC BK259.out 1).trans rfl, (bC BK259.out 2).trans rfl, (bC BK259.out 3).trans rfl, (bC BK259.out 4).trans rfl⟩ (fun hHeld => ?_)
       clear hK K
       refine norm_ (a' := ?_) ?_ ?_
       rotate_left
       ·show Act.put _ (some 13) _ = _
        simp only [Act.put, sI, sZ, sS, i64_w, i32_w]
        rfl
       refine one_ (i := 7) (N := some 17) (BT 23 839423) rfl rfl (one_of HT_.out (by kernel_rfl)) (by decide) (fun K hK => ?_)
       refine goes_ Tryd.func49 (by kernel_rfl) rfl #[.int .u64 (IntKind.u64.wrap (a0_1)), .int .i64 4] (by rfl) rfl rfl (by (try simp only [List.map_toArray, List.map_cons, List.map_nil]); first | done | rfl | (simp only [List.length_drop, List.length_take]; rfl) | (rw [wrap_sum2 (by assumption)]; rfl)) ?_
       with_reducible refine (r2_Put.calls k (IntKind.u64.wrap (a0_1)) 4 t262 _ A5.out).mono ?_
       rintro e w20 ⟨rfl, hb⟩
       refine ⟨_, rfl, ?_⟩
       have n0_ := Ax.mk (bB (bT BK259.out) hb)
       have n1_ := Ax.mk (bP bA hb)
       clear BK259
       clear HB
       have BK259 := n0_
       have HB := n1_
       clear n0_ n1_
       (try clear hb)
       (try clear hb2)
       (try clear hk)
       (try clear hi)
       refine hK.out _ _ ⟨(bC BK259.out 0).trans rfl, (bC BK259.out 1).trans rfl, (bC BK259.out 2).trans rfl, (bC BK259.out 3).trans rfl, (bC BK259.out 4).trans rfl⟩ (fun hHeld => ?_)
       clear hK K
       refine norm_ (a' := ?_) ?_ ?_
       rotate_left
       ·show Act.put _ (some 17) _ = _
        simp only [Act.put, sI, sZ, sS, i64_w, i32_w]
        rfl
       refine pure_ (i := 8) (N := some 18) (v := ?_) (a' := ?_) (BT 23 839679) rfl rfl (any_of HT_.out (by kernel_rfl)) (fun _ _ _ h => h) (Or.inl ⟨by rfl, ?_⟩) ?_ ?_
       rotate_left; · intro w'; go_simp; with_reducible rfl
       rotate_left; · simp only [Act.put, sI, sZ, sS, i64_w, i32_w]; rfl
       refine one_ (i := 12) (N := some 22) (BT 23 843775) rfl rfl (one_of HT_.out (by kernel_rfl)) (by decide) (fun K hK => ?_)
       refine goes_ Tryd.func49 (by kernel_rfl) rfl #[.int .u64 (IntKind.u64.wrap (a0_2)), .int .i64 4] (by rfl) rfl rfl (by (try simp only [List.map_toArray, List.map_cons, List.map_nil]); first | done | rfl | (simp only [List.length_drop, List.length_take]; rfl) | (rw [wrap_sum2 (by assumption)]; rfl)) ?_
       with_reducible refine (r2_Put.calls k (IntKind.u64.wrap (a0_2)) 4 t263 _ A7.out).mono ?_
       rintro e w21 ⟨rfl, hb⟩
       refine ⟨_, rfl, ?_⟩
       have n0_ := Ax.mk (bB (bT BK259.out) hb)
       have n1_ := Ax.mk (bP bA hb)
       clear BK259
       clear HB
       have BK259 := n0_
       have HB := n1_
       clear n0_ n1_
       (try clear hb)
       (try clear hb2)
       (try clear hk)
       (try clear hi)
       refine hK.out _ _ ⟨(bC BK259.out 0).trans rfl, (bC BK259.out 1).trans rfl, (bC BK259.out 2).trans rfl, (bC BK259.out 3).trans rfl, (bC BK259.out 4).trans rfl⟩ (fun hHeld => ?_)
       clear hK K
       refine norm_ (a' := ?_) ?_ ?_
       rotate_left
       ·show Act.put _ (some 22) _ = _
        simp only [Act.put, sI, sZ, sS, i64_w, i32_w]
        rfl
       refine pure_ (i := 13) (N := some 23) (v := ?_) (a' := ?_) (BT 23 851967) rfl rfl (any_of HT_.out (by kernel_rfl)) (fun _ _ _ h => h) (Or.inl ⟨by rfl, ?_⟩) ?_ ?_
       rotate_left; · intro w'; go_simp; with_reducible rfl
       rotate_left; · simp only [Act.put, sI, sZ, sS, i64_w, i32_w]; rfl
       refine one_ (i := 16) (N := some 26) (BT 23 917503) rfl rfl (one_of HT_.out (by kernel_rfl)) (by decide) (fun K hK => ?_)
       refine goes_ Tryd.func49 (by kernel_rfl) rfl #[.int .u64 a0_3, .int .i64 8] (by rfl) rfl rfl (by (try simp only [List.map_toArray, List.map_cons, List.map_nil]); first | done | rfl | (simp only [List.length_drop, List.length_take]; rfl) | (rw [wrap_sum2 (by assumption)]; rfl)) ?_
       with_reducible refine (r2_Put.calls k a0_3 8 t264 _ A9.out).mono ?_
       rintro e w22 ⟨rfl, hb⟩
       refine ⟨_, rfl, ?_⟩
       have n0_ := Ax.mk (bB (bT BK259.out) hb)
       have n1_ := Ax.mk (bP bA hb)
       clear BK259
       clear HB
       have BK259 := n0_
       have HB := n1_
       clear n0_ n1_
       (try clear hb)
       (try clear hb2)
       (try clear hk)
       (try clear hi)
       refine hK.out _ _ ⟨(bC BK259.out 0).trans rfl, (bC BK259.out 1).trans rfl, (bC BK259.out 2).trans rfl, (bC BK259.out 3).trans rfl, (bC BK259.out 4).trans rfl⟩ (fun hHeld => ?_)
       clear hK K
       refine norm_ (a' := ?_) ?_ ?_
       rotate_left
       ·show Act.put _ (some 26) _ = _
        simp only [Act.put, sI, sZ, sS, i64_w, i32_w]
        rfl
       refine pure_ (i := 17) (N := some 27) (v := ?_) (a' := ?_) (TF 20 3) rfl rfl (any_of HT_.out (by kernel_rfl)) (fun _ _ _ h => h) (Or.inl ⟨by rfl, ?_⟩) ?_ ?_
       rotate_left; · intro w'; go_simp; with_reducible rfl
       rotate_left; · simp only [Act.put, sI, sZ, sS, i64_w, i32_w]; rfl
       refine pure_ (i := 20) (N := some 30) (v := ?_) (a' := ?_) (TF 21 2) rfl rfl (any_of HT_.out (by kernel_rfl)) (fun _ _ _ h => h) (Or.inl ⟨by rfl, ?_⟩) ?_ ?_
       rotate_left; · intro w'; go_simp; with_reducible rfl
       rotate_left; · simp only [Act.put, sI, sZ, sS, i64_w, i32_w]; rfl
       refine one_ (i := 21) (N := some 31) (TF 22 1) rfl rfl (one_of HT_.out (by kernel_rfl)) (by decide) (fun K hK => ?_)
       refine goes_ Tryd.func48 (by kernel_rfl) rfl #[.string ((((t261 ++ t262) ++ t263) ++ t264) ++ a0_4)] (by rfl) rfl rfl (by (try simp only [List.map_toArray, List.map_cons, List.map_nil]); first | done | rfl | (simp only [List.length_drop, List.length_take]; rfl) | (rw [wrap_sum2 (by assumption)]; rfl)) ?_
       with_reducible refine (r3_Put.calls k ((((t261 ++ t262) ++ t263) ++ t264) ++ a0_4) t265 _ A12.out).mono ?_
       rintro e w23 ⟨rfl, hb⟩
       refine ⟨_, rfl, ?_⟩
       have n0_ := Ax.mk (bB (bT BK259.out) hb)
       have n1_ := Ax.mk (bP bA hb)
       clear BK259
       clear HB
       have BK259 := n0_
       have HB := n1_
       clear n0_ n1_
       (try clear hb)
       (try clear hb2)
       (try clear hk)
       (try clear hi)
       refine hK.out _ _ ⟨(bC BK259.out 0).trans rfl, (bC BK259.out 1).trans rfl, (bC BK259.out 2).trans rfl, (bC BK259.out 3).trans rfl, (bC BK259.out 4).trans rfl⟩ (fun hHeld => ?_)
       clear hK K
       refine norm_ (a' := ?_) ?_ ?_
       rotate_left
       ·show Act.put _ (some 31) _ = _
        simp only [Act.put, sI, sZ, sS, i64_w, i32_w]
        rfl
       refine pure_ (i := 22) (N := some 5) (v := ?_) (a' := ?_) (TF 23 0) rfl rfl (any_of HT_.out (by kernel_rfl)) (fun _ _ _ h => h) (Or.inl ⟨by rfl, ?_⟩) ?_ ?_
       rotate_left; · intro w'; go_simp; with_reducible rfl
       rotate_left; · simp only [Act.put, sI, sZ, sS, i64_w, i32_w]; rfl
       refine done_ (done_of HT_.out (by kernel_rfl)) ?_
       try go_wp2_with (first | ((with_reducible refine gate_callee (f := 49) rfl ?_); refine goesL_ (some 35) rfl rfl Tryd.func49 (by kernel_rfl) rfl #[.int .u64 (IntKind.u64.wrap ((t265.size : Int))), .int .i64 2] rfl (by (try simp only [List.map_toArray, List.map_cons, List.map_nil]); first | done | rfl | (simp only [List.length_drop, List.length_take]; rfl) | (rw [wrap_sum2 (by assumption)]; rfl)) ?_; (with_reducible refine (r2_Put.calls k (IntKind.u64.wrap ((t265.size : Int))) 2 t266 _ A13.out).mono ?_); rintro e w24 ⟨rfl, hb⟩; refine ⟨_, rfl, ?_⟩; have n0_ := Ax.mk (bB (bT BK259.out) hb); have n1_ := Ax.mk (bP bA hb); clear BK259; clear HB; have BK259 := n0_; have HB := n1_; clear n0_ n1_; (try clear hb); (try clear hb2); (try clear hk); (try clear hi)))
       go_ret2
       exact ⟨by first | rfl | (simp [errW_none, errW_some] <;> rfl) | (simp [*, errW_none, errW_some] <;> rfl), bA⟩
      ·rw [if_neg c14] at H
       exact absurd H (by simp)
     ·rw [if_neg c11] at H
      exact absurd H (by simp)
    ·rw [if_neg c10] at H
     exact absurd H (by simp)
   ·rw [if_neg c8] at H
    exact absurd H (by simp)
  ·rw [if_neg c6] at H
   exact absurd H (by simp)
 ·replace c3 := Bool.eq_false_iff.mpr c3
  subst c3
  have H1 : (some ((⟨#[]⟩ : ByteArray), 1)) = some (r1, r2) := by rw [if_neg (show ¬ (false = true) by decide)] at H; exact H
  clear H
  have H := H1
  clear H1
  simp only [Option.some.injEq, Prod.mk.injEq] at H
  obtain ⟨rfl, rfl⟩ := H
  go_enter Tryd.func20, Tryd.ntmps20
  go_wp2_with (first | ((with_reducible refine gate_dst (N := 1) rfl ?_); refine box_event ?hg (N := 1) ?hd (cs := #[.int .i64 a0_0, .int .i64 a0_1, .int .i64 a0_2, .int .u64 a0_3, .string a0_4]) (t := 26) ?hr ?_; (case hd => rfl); (case hg => rfl); (case hr => first | (go_simp; done) | (go_simp; rfl)); intro gb259 hg w25 hbox hb; have n0_ := Ax.mk (bP bA hb); have n1_ := Ax.mk (hbox); have n2_ := Ax.mk ((ge_new hg : w.heap.size ≤ gb259)); have n3_ := n2_; clear HB; have HB := n0_; have BK259 := n1_; have GW259 := n2_; have GE259 := n3_; clear n0_ n1_ n2_ n3_; clear hb hbox hg; have hcz26_0 : w25.cell? ⟨gb259, 0, none⟩ = some (.int .i64 a0_0) := (bC BK259.out 0).trans rfl; have hcz26_1 : w25.cell? ⟨gb259, 1, none⟩ = some (.int .i64 a0_1) := (bC BK259.out 1).trans rfl; have hcz26_2 : w25.cell? ⟨gb259, 2, none⟩ = some (.int .i64 a0_2) := (bC BK259.out 2).trans rfl; have hcz26_3 : w25.cell? ⟨gb259, 3, none⟩ = some (.int .u64 a0_3) := (bC BK259.out 3).trans rfl; have hcz26_4 : w25.cell? ⟨gb259, 4, none⟩ = some (.string a0_4) := (bC BK259.out 4).trans rfl; have hfz26_0 := bF BK259.out 0; have hfz26_1 := bF BK259.out 1; have hfz26_2 := bF BK259.out 2; have hfz26_3 := bF BK259.out 3; have hfz26_4 := bF BK259.out 4) | ((with_reducible refine gate_callee (f := 22) rfl ?_); refine goesL_ (some 7) rfl rfl Tryd.func22 (by kernel_rfl) rfl #[.agg #[.int .i64 a0_0, .int .i64 a0_1, .int .i64 a0_2, .int .u64 a0_3, .string a0_4]] rfl (by (try simp only [List.map_toArray, List.map_cons, List.map_nil]); first | done | rfl | (simp only [List.length_drop, List.length_take]; rfl) | (rw [wrap_sum2 (by assumption)]; rfl)) ?_; (with_reducible refine (r12_Right.calls k a0_0 a0_1 a0_2 a0_3 a0_4 false _ A2.out).mono ?_); rintro e w27 ⟨rfl, hb⟩; refine ⟨_, rfl, ?_⟩; have n0_ := Ax.mk (bB (bT BK259.out) hb); have n1_ := Ax.mk (bP bA hb); clear BK259; clear HB; have BK259 := n0_; have HB := n1_; clear n0_ n1_; (try clear hb); (try clear hb2); (try clear hk); (try clear hi)))
  go_ret2
  exact ⟨by first | rfl | (simp [errW_none, errW_some] <;> rfl) | (simp [*, errW_none, errW_some] <;> rfl), bA⟩
def step_Step.f (l : List S24) : Option (List S24) := if l.length ≤ 1000000000 then some l else none
def cellsOf24 (x : S24) : List Value := [.int .i64 x.f0, .int .i64 x.f1, .int .i64 x.f2, .int .u64 x.f3, .string x.f4]
theorem row24_len (l : List S24) : (l.flatMap cellsOf24).length = l.length * 5 := by
 induction l with
 | nil => rfl
 | cons x l ih => rw [List.flatMap_cons, List.length_append, ih, List.length_cons]; show 5 + _ = _; omega
theorem row24_at (l : List S24) : ∀ m, (l.flatMap cellsOf24)[m]? = (l[m / 5]?).bind fun x => (cellsOf24 x)[m % 5]? := by
 induction l with
 | nil => intro m; simp
 | cons x l ih =>
  intro m
  rw [List.flatMap_cons]
  rcases Nat.lt_or_ge m 5 with h | h
  ·rw [List.getElem?_append_left (by exact h), Nat.div_eq_of_lt h, Nat.mod_eq_of_lt h]; rfl
  ·rw [List.getElem?_append_right (by exact h)]
   show (l.flatMap cellsOf24)[m - 5]? = _
   rw [ih, show m / 5 = (m - 5) / 5 + 1 by omega, List.getElem?_cons_succ, show m % 5 = (m - 5) % 5 by omega]
theorem row24_take (l : List S24) (j : Nat) (p : S24) (h : l[j]? = some p) : ((l.flatMap cellsOf24).drop (j * 5)).take 5 = cellsOf24 p := by
 apply List.ext_getElem?
 intro i
 rcases Nat.lt_or_ge i 5 with hi | hi
 ·rw [List.getElem?_take_of_lt hi, List.getElem?_drop, row24_at, show (j * 5 + i) / 5 = j by omega, show (j * 5 + i) % 5 = i by omega, h]; rfl
 ·rw [List.getElem?_eq_none (by rw [List.length_take]; omega), List.getElem?_eq_none (by exact hi)]
theorem row24_one (l : List S24) : ∀ u ∈ l.flatMap cellsOf24, u.oneCell' = true := by
 intro u hu
 obtain ⟨x, _, hx⟩ := List.mem_flatMap.1 hu
 simp only [cellsOf24, List.mem_cons, List.not_mem_nil, or_false] at hx
 rcases hx with rfl | rfl | rfl | rfl | rfl <;> rfl
set_option maxHeartbeats 4000000 in
set_option maxRecDepth 100000 in
theorem step_Step.calls (A0 : Option Addr) (c0 : Nat) (l0 r1 : List S24) (w : World) (hr0 : Kd.C k24 w A0 l0.length l0) (hc0 : l0.length ≤ c0) (h : step_Step.f l0 = some r1) :
  Calls Tryd.prog 53 #[.slice A0 l0.length c0] w fun e w' => ∃ v0_ : Value, e = .returned v0_ ∧ Kd.R k24 24 w' w.heap.size (fun _ => True) v0_ r1 ∧ Below w.heap.size w w' := by
 unfold step_Step.f at h
 split at h
 case isFalse => cases h
 rename_i hn
 cases h
 have q22 : ∀ (w : World) (a : Option Addr) (n c n' c' : Nat), (binOp .eql 29 (.slice a n c) (.slice none n' c')).run Tryd.prog w = .ok (.bool a.isNone) w := fun w a n c n' c' => Lib.run_eql_slice_nil w _ _ a n c n' c' Tryd.underlying29
 cases A0 with
 | none =>
  have hl : l0 = [] := by
   rcases Nat.eq_zero_or_pos l0.length with h0 | h0
   ·exact List.eq_nil_of_length_eq_zero h0
   ·obtain ⟨ad, e, _⟩ := hr0.2.2 h0
    cases e
  subst hl
  clear hr0
  go_enter Tryd.func53, Tryd.ntmps53
  go_wp2
  go_ret
  exact ⟨_, rfl, Kd.R_nil _ _ _ _ _, Below.refl _ _⟩
 | some ad =>
  have hcell : Ax (∀ j u, (l0.flatMap cellsOf24)[j]? = some u → w.cell? (ad.add j) = some u) := ⟨by
   intro m u hm
   rw [row24_at] at hm
   obtain ⟨p, hp, hu⟩ := Option.bind_eq_some_iff.1 hm
   have hpos : 0 < l0.length := by
    rcases Nat.eq_zero_or_pos l0.length with h0 | h0
    ·rw [List.eq_nil_of_length_eq_zero h0] at hp; simp at hp
    ·exact h0
   obtain ⟨ad', e, hc⟩ := hr0.2.2 hpos
   cases e
   obtain ⟨c, _, hK, hcell⟩ := hc _ p hp
   obtain rfl := k24_open hK
   have h2 := hcell (m % 5) u hu
   rw [show k24.sz = 5 from rfl, show m / 5 * 5 + m % 5 = m by omega] at h2
   exact h2⟩
  clear hr0
  obtain ⟨i0, hi, hz⟩ := Option.map_eq_some_iff.1 info24
  simp only [Prod.mk.injEq] at hz
  obtain ⟨hz0, hz1, hz2⟩ := hz
  go_enter Tryd.func53, Tryd.ntmps53
  go_wp2_with (at_builtin; refine wpList_append_own _ rfl _ _ 29 rfl w.heap.size 24 i0 _ 5 48 Tryd.underlying29 hi hz0 hz1 hz2 rfl (by omega) _ _ _ rfl (World.ownsRow_made w #[] 0 (Nat.le_refl _) (Nat.zero_le _) (by simp)) ad l0.length c0 (l0.flatMap cellsOf24) rfl ?qc1 ?qc2 ?qc3 ?qc4 ?qc5 ?qc6 ?_)
  case qc1 => exact row24_len l0
  case qc2 =>
   intro j u hj
   exact Lib.cell?_alloc_some _ (hcell.out j u hj)
  case qc3 => exact row24_one l0
  case qc4 => rw [Nat.zero_add]; unfold maxLen; omega
  case qc5 => rw [Nat.zero_add]; omega
  case qc6 => simp
  intro v' w1 hown hgrow hnil
  go_wp2
  go_ret
  refine ⟨v', rfl, ⟨fun _ _ => trivial, l0.flatMap cellsOf24, (show w1.ownsRow w.heap.size 24 5 v' l0.length (l0.flatMap cellsOf24) from by simpa using hown), ⟨row24_len l0, fun j p hj => ?_⟩⟩, ?_⟩
  ·rw [show k24.sz = 5 from rfl, row24_take l0 j p hj]
   exact k24_mkM _ _ _ p
  ·exact ((Below.refl _ w).alloc (Nat.le_refl _) _).grown hgrow (by simp) (by intro k hk; simp [Value.ownBlock] at hk; omega)
def idxOf {α : Type} (p : α → Bool) (l : List α) : Int := if l.any p = true then ((l.takeWhile (fun x => !p x)).length : Int) else -1
theorem idx_hit {α : Type} (p : α → Bool) : ∀ (l : List α) (j : Nat) (x : α), (l.take j).any p = false → l[j]? = some x → p x = true → idxOf p l = (j : Int)
 | [], _, _, _, h, _ => by simp at h
 | y :: l, 0, x, _, h, hp => by
  simp at h; subst h
  unfold idxOf
  simp [hp]
 | y :: l, j + 1, x, ht, h, hp => by
  rw [List.take_succ_cons, List.any_cons, Bool.or_eq_false_iff] at ht
  have ih := idx_hit p l j x ht.2 (by simpa using h) hp
  have hany : l.any p = true := List.any_eq_true.2 ⟨x, List.mem_of_getElem? (by simpa using h), hp⟩
  unfold idxOf at ih ⊢
  rw [if_pos hany] at ih
  rw [List.any_cons, hany, Bool.or_true, if_pos rfl, List.takeWhile_cons, if_pos (by simp [ht.1]), List.length_cons]
  omega
theorem idx_miss {α : Type} (p : α → Bool) (l : List α) (h : l.any p = false) : idxOf p l = -1 := by unfold idxOf; rw [h]; rfl
theorem idx_nonneg {α : Type} (p : α → Bool) (l : List α) : decide (0 ≤ idxOf p l) = l.any p := by
 unfold idxOf
 cases l.any p
 ·rfl
 ·rw [if_pos rfl]; exact decide_eq_true (by omega)
theorem any_take_succ {α : Type} (p : α → Bool) (l : List α) (j : Nat) (x : α) (h : l[j]? = some x) (h0 : (l.take j).any p = false) (h1 : p x = false) : (l.take (j + 1)).any p = false := by
 rw [List.take_add_one, h, List.any_append, h0]
 simp [h1]
def isCommit (x : S24) : Bool := x.f0 == 8
def step_Step_contains.f (l : List S24) : Option Bool := if l.length ≤ 1000000000000 then some (l.any isCommit) else none
set_option maxHeartbeats 4000000 in
set_option maxRecDepth 100000 in
theorem step_Step_contains.pred (x : S24) (w : World) : Calls Tryd.prog 80 #[.agg #[.int .i64 x.f0, .int .i64 x.f1, .int .i64 x.f2, .int .u64 x.f3, .string x.f4]] w fun e w' => e = .returned (.bool (isCommit x)) ∧ Below w.heap.size w w' := by
 show Calls Tryd.prog 80 _ w fun e w' => e = .returned (.bool (x.f0 == 8)) ∧ Below w.heap.size w w'
 go_enter Tryd.func80, Tryd.ntmps80
 go_wp2
 go_ret
 exact ⟨rfl, below_alloc (Below.refl _ _) _⟩
set_option maxHeartbeats 4000000 in
set_option maxRecDepth 100000 in
theorem step_Step_contains.idx (A0 : Option Addr) (c0 : Nat) (l0 : List S24) (w : World) (hr0 : Kd.C k24 w A0 l0.length l0) (hn : l0.length ≤ 1000000000000) :
  Calls Tryd.prog 84 #[.slice A0 l0.length c0, .func (.func 80) #[] #[]] w fun e w' => e = .returned (.int .i64 (idxOf isCommit l0)) ∧ Below w.heap.size w w' := by
 have HR := Ax.mk hr0
 clear hr0
 go_enter Tryd.func84, Tryd.ntmps84
 go_wp2
 go_loopw [5, 8] (fun _ v8 wr => ∃ j : Nat, v8 = .int .i64 (j : Int) ∧ j ≤ l0.length ∧ Ax ((l0.take j).any isCommit = false) ∧ Ax (Below w.heap.size w wr)) (fun _ v8 _ => l0.length - (intOf v8).toNat)
 case atStart => exact ⟨0, rfl, Nat.zero_le _, ⟨by simp⟩, ⟨Below.refl _ _⟩⟩
 case round =>
  obtain ⟨j, rfl, hj, HA, HB⟩ := hrel
  by_cases hlt : j < l0.length
  ·obtain ⟨ad, rfl, hx0, hx1, hx2, hx3, hx4⟩ := at_T24 HR.out (j : Int) (by omega) (by omega)
   have HX := Ax.mk (show l0[j]? = some (rd_T24 l0 (j : Int)) by unfold rd_T24; simp [List.getD, hlt])
   simp only [Int.toNat_natCast] at hx0 hx1 hx2 hx3 hx4
   replace hx0 := (HB.out.cell (World.block_lt_of_cell? w _ hx0)).trans hx0
   replace hx1 := (HB.out.cell (World.block_lt_of_cell? w _ hx1)).trans hx1
   replace hx2 := (HB.out.cell (World.block_lt_of_cell? w _ hx2)).trans hx2
   replace hx3 := (HB.out.cell (World.block_lt_of_cell? w _ hx3)).trans hx3
   replace hx4 := (HB.out.cell (World.block_lt_of_cell? w _ hx4)).trans hx4
   generalize rd_T24 l0 (j : Int) = x at HX hx0 hx1 hx2 hx3 hx4
   have hp := step_Step_contains.pred x
   cases hq : isCommit x with
   | true =>
    rw [hq] at hp
    have HQ := Ax.mk hq
    clear hq
    go_wp2_with (first | (go_at_call 80; fail))
    refine (hp _).mono ?_
    rintro e w1 ⟨rfl, hb1⟩
    go_wp2
    go_ret
    exact ⟨congrArg (fun z => Ending.returned (.int .i64 z)) (idx_hit isCommit l0 j x HA.out HX.out HQ.out).symm, bP HB.out hb1⟩
   | false =>
    rw [hq] at hp
    have HQ := Ax.mk hq
    clear hq
    go_wp2_with (first | (go_at_call 80; fail))
    refine (hp _).mono ?_
    rintro e w1 ⟨rfl, hb1⟩
    have HB1 := Ax.mk (bP HB.out hb1)
    clear hb1
    go_wp2
    go_roundw
    case rel => exact ⟨j + 1, by go_num, by omega, ⟨any_take_succ isCommit l0 j x HX.out HA.out HQ.out⟩, HB1⟩
    case measure => simp [intOf]; omega
  ·obtain rfl : j = l0.length := by omega
   go_wp2
   go_ret
   exact ⟨congrArg (fun z => Ending.returned (.int .i64 z)) (idx_miss isCommit l0 (by have h := HA.out; rwa [List.take_length] at h)).symm, HB.out⟩
set_option maxHeartbeats 4000000 in
set_option maxRecDepth 100000 in
theorem step_Step_contains.calls (A0 : Option Addr) (c0 : Nat) (l0 : List S24) (r : Bool) (w : World) (hr0 : Kd.C k24 w A0 l0.length l0) (_hc0 : l0.length ≤ c0) (h : step_Step_contains.f l0 = some r) :
  Calls Tryd.prog 79 #[.slice A0 l0.length c0, .func (.func 80) #[] #[]] w fun e w' => e = .returned (.bool r) ∧ Below w.heap.size w w' := by
 unfold step_Step_contains.f at h
 split at h
 case isFalse => cases h
 rename_i hlen
 cases h
 rw [← idx_nonneg]
 have hi := step_Step_contains.idx A0 c0 l0 w hr0 hlen
 generalize idxOf isCommit l0 = r at hi
 clear hr0
 go_enter Tryd.func79, Tryd.ntmps79
 go_wp2_with (go_at_call 84; refine hi.mono ?_; rintro e w' ⟨rfl, hb⟩)
 go_ret
 exact ⟨rfl, hb⟩
def journal_put.g (k : Nat) : List S24 → ByteArray → Option (ByteArray × Int)
 | [], acc => some (acc, 0)
 | x :: r, acc => (step_Put.f k x.f0 x.f1 x.f2 x.f3 x.f4).bind fun t => if t.2 = 0 then (if acc.size + t.1.size ≤ 100000000000 then journal_put.g k r (acc ++ t.1) else none) else some (⟨#[]⟩, 1)
def journal_put.f (k : Nat) (l : List S24) : Option (ByteArray × Int) := if l.length ≤ 2000000000 then journal_put.g k l ⟨#[]⟩ else none
theorem journal_put.mono_g : ∀ (l : List S24) (acc : ByteArray) (k : Nat), LeO (journal_put.g k l acc) (journal_put.g (k + 1) l acc)
 | [], _, _ => LeO.refl _
 | x :: r, acc, k => by
  unfold journal_put.g
  refine LeO.bind (step_Put.mono _ _ _ _ _ _) (fun t => ?_)
  refine LeO.ite ?_ (LeO.refl _)
  exact LeO.ite (journal_put.mono_g r _ k) (LeO.refl _)
theorem journal_put.mono : ∀ a0 k, LeO (journal_put.f k a0) (journal_put.f (k + 1) a0) := fun a0 k => LeO.ite (journal_put.mono_g a0 _ k) (LeO.refl _)
theorem jp_builder_below {T e : TypeId} {B b : Nat} {bs : List Value} {w w1 : World} (h : Lib.IsBuilderF T e B b bs w) (hb : Below w.heap.size w w1) : Lib.IsBuilderF T e B b bs w1 := by
 have key : ∀ p, Lib.BuilderAtF T e B b p bs w → Lib.BuilderAtF T e B b p bs w1 := by
  rintro p ⟨hB, v, hv, ⟨hl, hown⟩, hne⟩
  have hlt : b < w.heap.size := (Array.getElem?_eq_some_iff.1 hv).1
  refine ⟨hB, v, (hb.block b hlt).trans hv, ⟨hl, ?_⟩, hne⟩
  rcases hown with hn | ⟨g, cap, cur, fz, h1, h2, h3, h4⟩
  ·exact Or.inl hn
  ·exact Or.inr ⟨g, cap, cur, fz, h1, h2, (hb.block g (Array.getElem?_eq_some_iff.1 h3).1).trans h3, h4⟩
 exact h.elim (fun x => .inl (key _ x)) (fun x => .inr (key _ x))
def JpB (w wr : World) (acc : ByteArray) : Prop := Lib.IsBuilderF 132 5 w.heap.size w.heap.size (Lib.byteCells acc.data.toList) wr
theorem jp_start (w : World) : JpB w (w.alloc (.cells #[.pointer none, .slice none 0 0] 132)) ⟨#[]⟩ := Lib.IsBuilderF.of (Lib.fresh_isBuilder 132 5 w)
theorem jp_below {w wr w1 : World} {acc : ByteArray} (h : JpB w wr acc) (hb : Below wr.heap.size wr w1) : JpB w w1 acc := jp_builder_below h hb
theorem jp_cells (acc t : ByteArray) : Lib.byteCells acc.data.toList ++ Lib.strCells t = Lib.byteCells (acc ++ t).data.toList := by
 rw [Lib.strCells_eq, ← Lib.byteCells_append]
 simp [ByteArray.data_append]
theorem jp_write {w wr : World} {acc t : ByteArray} (h : JpB w wr acc) (hl : acc.size + t.size ≤ 100000000000) (hs : w.heap.size ≤ wr.heap.size) :
  Calls Tryd.prog 85 #[.pointer (some ⟨w.heap.size, 0, none⟩), .string t] wr fun e w' => e = .returned (.tuple #[.int .i64 t.size, .nilIface]) ∧ JpB w w' (acc ++ t) ∧ Below w.heap.size wr w' := by
 refine (Sh.Builder_WriteString_k w.heap.size w.heap.size _ t wr h (by rw [Lib.byteCells_length]; have : acc.data.toList.length = acc.size := Array.length_toList; omega) hs).mono ?_
 rintro e w' ⟨rfl, hI, hb, _⟩
 refine ⟨rfl, ?_, hb⟩
 rw [jp_cells] at hI
 exact .inr hI
theorem jp_read {w wr : World} {acc : ByteArray} (h : JpB w wr acc) (hs : w.heap.size ≤ wr.heap.size) :
  Calls Tryd.prog 86 #[.pointer (some ⟨w.heap.size, 0, none⟩)] wr fun e w' => e = .returned (.string acc) ∧ Below w.heap.size wr w' := by
 refine (Sh.Builder_String_any_k w.heap.size w.heap.size acc.data.toList wr h hs).mono ?_
 rintro e w' ⟨rfl, _, hb, _⟩
 exact ⟨by cases acc; rfl, hb⟩
theorem rd_cons24 (l : List S24) (j : Nat) (h : j < l.length) : l.drop j = rd_T24 l (j : Int) :: l.drop (j + 1) := by
 rw [List.drop_eq_getElem_cons h]
 congr 1
 unfold rd_T24
 simp [List.getD, h]
set_option maxHeartbeats 4000000 in
set_option maxRecDepth 100000 in
theorem journal_put.calls (k : Nat) (A0 : Option Addr) (c0 : Nat) (l0 : List S24) (r1 : ByteArray) (r2 : Int) (w : World) (hr0 : Kd.C k24 w A0 l0.length l0) (hc0 : l0.length ≤ c0) (h : journal_put.f k l0 = some (r1, r2)) (HT : Tabs w) :
  Calls Tryd.prog 81 #[.slice A0 l0.length c0] w fun e w' => e = .returned (.tuple #[.string r1, .int .i64 r2]) ∧ Below w.heap.size w w' := by
 have HR := Ax.mk hr0
 have HW := Ax.mk HT
 unfold journal_put.f at h
 split at h
 case isFalse => cases h
 rename_i hlen
 have H0 := Ax.mk h
 clear hr0 HT h hc0
 go_enter Tryd.func81, Tryd.ntmps81
 go_wp2
 go_loopw [11] (fun v11 wr => ∃ (j : Nat) (acc : ByteArray), v11 = .int .i64 (j : Int) ∧ j ≤ l0.length ∧ Ax (journal_put.g k (l0.drop j) acc = some (r1, r2)) ∧ Ax (acc.size ≤ 100000000000) ∧ Ax (JpB w wr acc) ∧ Ax (Below w.heap.size w wr)) (fun v11 _ => l0.length - (intOf v11).toNat)
 case atStart => exact ⟨0, ⟨#[]⟩, rfl, Nat.zero_le _, ⟨H0.out⟩, ⟨by decide⟩, ⟨jp_start w⟩, ⟨below_alloc (Below.refl _ _) _⟩⟩
 case round =>
  obtain ⟨j, acc, rfl, hj, HG, HS, HI, HB⟩ := hrel
  by_cases hlt : j < l0.length
  ·obtain ⟨ad, rfl, hx0, hx1, hx2, hx3, hx4⟩ := at_T24 HR.out (j : Int) (by omega) (by omega)
   have hG := HG.out
   rw [rd_cons24 l0 j hlt, journal_put.g] at hG
   clear HG
   replace hG := Option.bind_eq_some_iff.1 hG
   obtain ⟨⟨t, q⟩, hp, hG⟩ := hG
   simp only [Int.toNat_natCast] at hx0 hx1 hx2 hx3 hx4
   replace hx0 := (HB.out.cell (World.block_lt_of_cell? w _ hx0)).trans hx0
   replace hx1 := (HB.out.cell (World.block_lt_of_cell? w _ hx1)).trans hx1
   replace hx2 := (HB.out.cell (World.block_lt_of_cell? w _ hx2)).trans hx2
   replace hx3 := (HB.out.cell (World.block_lt_of_cell? w _ hx3)).trans hx3
   replace hx4 := (HB.out.cell (World.block_lt_of_cell? w _ hx4)).trans hx4
   generalize rd_T24 l0 (j : Int) = x at hp hx0 hx1 hx2 hx3 hx4
   have HP := Ax.mk hp
   have HG := Ax.mk hG
   clear hp hG
   go_wp2_with (first | (go_at_call 19; fail))
   refine (step_Put.calls k x.f0 x.f1 x.f2 x.f3 x.f4 t q _ HP.out (HW.out.below (below_alloc HB.out _))).mono ?_
   rintro e w1 ⟨rfl, hb1⟩
   have HB1 := Ax.mk (bP (below_alloc HB.out _) hb1)
   have HI1 := Ax.mk (jp_below HI.out (bP (below_alloc (Below.refl _ wr) _) hb1))
   clear hb1 HI hx0 hx1 hx2 hx3 hx4 HP
   by_cases hq : q = 0
   ·subst hq
    have hG := HG.out
    clear HG
    rw [if_pos rfl] at hG
    by_cases hle : acc.size + t.size ≤ 100000000000
    ·rw [if_pos hle] at hG
     have HG := Ax.mk hG
     have HL := Ax.mk hle
     clear hG hle
     go_wp2_with (first | (go_at_call 85; fail))
     refine (jp_write HI1.out HL.out HB1.out.size).mono ?_
     rintro e w2 ⟨rfl, hI2, hb2⟩
     have HI2 := Ax.mk hI2
     have HB2 := Ax.mk (HB1.out.trans hb2)
     clear hI2 hb2 HI1 HB1
     go_wp2
     go_roundw
     case rel => exact ⟨j + 1, acc ++ t, by go_num, by omega, HG, ⟨by rw [ByteArray.size_append]; exact HL.out⟩, HI2, HB2⟩
     case measure => simp [intOf]; omega
    ·rw [if_neg hle] at hG
     cases hG
   ·have hG := HG.out
    rw [if_neg hq] at hG
    cases hG
    have c1 : (q == 0) = false := by simpa using hq
    have c2 : (q != 0) = true := by simpa using hq
    have HQ := Ax.mk hq
    clear HG hq
    go_wp2
    go_ret2
    exact ⟨rfl, HB1.out⟩
  ·obtain rfl : j = l0.length := by omega
   have hG := HG.out
   rw [List.drop_length, journal_put.g] at hG
   cases hG
   clear HG
   go_wp2_with (first | (go_at_call 86; fail))
   refine (jp_read HI.out HB.out.size).mono ?_
   rintro e w2 ⟨rfl, hb2⟩
   have HB2 := Ax.mk (HB.out.trans hb2)
   clear hb2
   go_wp2
   go_ret2
   exact ⟨rfl, HB2.out⟩
def journal_closed.f (k : Nat) (a0_0 : Int) (l0_1 : List (S24)) : Option (ByteArray × Int) := (step_Step_contains.f l0_1).bind fun t122 => (if t122 = true then (some ((⟨#[]⟩ : ByteArray), 1)) else ((step_Step.f l0_1).bind fun t123 => ((some (([(⟨8, 0, 0, a0_0, (⟨#[]⟩ : ByteArray)⟩ : S24)] : List (S24)) : List (S24))).bind fun y126 => (if t123.length + y126.length < 2932031007402 then ((journal_put.f k (t123 ++ y126)).bind fun bt132 => (some (bt132.1, bt132.2))) else (none)))))
theorem journal_closed.mono : ∀ a0 a1 k, LeO (journal_closed.f k a0 a1) (journal_closed.f (k + 1) a0 a1) := by
 intro a0 a1 k
 unfold journal_closed.f
 repeat' first
   | (with_reducible exact journal_put.mono _ _)
   | (with_reducible exact LeO.refl _)
   | (with_reducible exact LeO.none _)
   | (with_reducible refine LeO.ite ?_ ?_)
   | (with_reducible refine LeO.bind ?_ (fun _ => ?_))
   | exact journal_put.mono _ _
   | exact LeO.none _
   | refine LeO.ite ?_ ?_
   | refine LeO.bind ?_ (fun _ => ?_)
def journal_closed.T3 : Bool × List (List Nat × List Nat) := (true, [([], []), ([0], [0]), ([1], [1]), ([], []), ([3], [3]), ([4], [4]), ([5], [5]), ([2, 6, 2], [2, 6]), ([7, 7], [7]), ([8], [8]), ([8], [8]), ([9, 8, 0, 1, 2, 3, 4, 5, 6, 7, 8, 9, 10], [9]), ([10, 11, 0, 1, 2, 3, 4, 5, 6, 7, 8, 9, 10, 11], [10])])
def journal_closed.B3 : List Nat := [0, 1, 3, 0, 8, 24, 56, 127, 255, 511, 511, 2047, 4095]
theorem journal_closed.tab3 : rtab .any (opsOf Tryd.f74 3) = journal_closed.T3 := by kernel_rfl
theorem journal_closed.bits3 : waitsOk journal_closed.T3.2 journal_closed.B3 = true := by kernel_rfl
set_option maxHeartbeats 8000000 in
set_option maxRecDepth 100000 in
theorem journal_closed.calls (k : Nat) (a0_0 : Int) (A0_1 : Option Addr) (c0_1 : Nat) (l0_1 : List (S24)) (r1 : ByteArray) (r2 : Int) (w : World) (hr0_1 : Kd.C k24 w A0_1 l0_1.length l0_1) (hc0_1 : l0_1.length ≤ c0_1) (h : journal_closed.f k a0_0 l0_1 = some (r1, r2)) (HT : Tabs w) :
  Calls Tryd.prog 74 #[.agg #[.int .u64 a0_0, .slice A0_1 l0_1.length c0_1]] w fun e w' => e = .returned (.tuple #[.string r1, .int .i64 r2]) ∧ Below w.heap.size w w' := by
 have hu44 := Tryd.underlying44
 have hu24 := Tryd.underlying24
 have HR0_1 := Ax.mk hr0_1
 have HC0_1 := Ax.mk hc0_1
 clear hr0_1 hc0_1
 have HB := Ax.mk (Below.refl w.heap.size w)
 have H : ((step_Step_contains.f l0_1).bind fun t122 => (if t122 = true then (some ((⟨#[]⟩ : ByteArray), 1)) else ((step_Step.f l0_1).bind fun t123 => ((some (([(⟨8, 0, 0, a0_0, (⟨#[]⟩ : ByteArray)⟩ : S24)] : List (S24)) : List (S24))).bind fun y126 => (if t123.length + y126.length < 2932031007402 then ((journal_put.f k (t123 ++ y126)).bind fun bt132 => (some (bt132.1, bt132.2))) else (none)))))) = some (r1, r2) := h
 clear h
 replace H := Option.bind_eq_some_iff.mp H
 obtain ⟨t122, A20, H⟩ := H
 replace H : (if t122 = true then (some ((⟨#[]⟩ : ByteArray), 1)) else ((step_Step.f l0_1).bind fun t123 => ((some (([(⟨8, 0, 0, a0_0, (⟨#[]⟩ : ByteArray)⟩ : S24)] : List (S24)) : List (S24))).bind fun y126 => (if t123.length + y126.length < 2932031007402 then ((journal_put.f k (t123 ++ y126)).bind fun bt132 => (some (bt132.1, bt132.2))) else (none))))) = some (r1, r2) := H
 have A2 := Ax.mk A20
 clear A20
 by_cases c3 : t122 = true
 ·subst c3
  have H1 : (some ((⟨#[]⟩ : ByteArray), 1)) = some (r1, r2) := by rw [if_pos rfl] at H; exact H
  clear H
  have H := H1
  clear H1
  simp only [Option.some.injEq, Prod.mk.injEq] at H
  obtain ⟨rfl, rfl⟩ := H
  go_enter Tryd.func74, Tryd.ntmps74
  go_wp2_with (first | ((with_reducible refine gate_dst (N := 1) rfl ?_); refine box_event ?hg (N := 1) ?hd (cs := #[.int .u64 a0_0, .slice A0_1 l0_1.length c0_1]) (t := 44) ?hr ?_; (case hd => rfl); (case hg => rfl); (case hr => first | (go_simp; done) | (go_simp; rfl)); intro gb121 hg w4 hbox hb; have n0_ := Ax.mk (bP bA hb); have n1_ := Ax.mk (hbox); have n2_ := Ax.mk ((ge_new hg : w.heap.size ≤ gb121)); have n3_ := n2_; clear HB; have HB := n0_; have BK121 := n1_; have GW121 := n2_; have GE121 := n3_; clear n0_ n1_ n2_ n3_; clear hb hbox hg; have hcz5_0 : w4.cell? ⟨gb121, 0, none⟩ = some (.int .u64 a0_0) := (bC BK121.out 0).trans rfl; have hcz5_1 : w4.cell? ⟨gb121, 1, none⟩ = some (.slice A0_1 l0_1.length c0_1) := (bC BK121.out 1).trans rfl; have hfz5_0 := bF BK121.out 0; have hfz5_1 := bF BK121.out 1) | ((with_reducible refine gate_callee (f := 79) rfl ?_); refine goesL_ (some 6) rfl rfl Tryd.func79 (by kernel_rfl) rfl #[.slice A0_1 l0_1.length c0_1, .func (.func 80) #[] #[]] rfl (by (try simp only [List.map_toArray, List.map_cons, List.map_nil]); first | done | rfl | (simp only [List.length_drop, List.length_take]; rfl) | (rw [wrap_sum2 (by assumption)]; rfl)) ?_; (with_reducible refine (step_Step_contains.calls _ _ l0_1 true _ ?side1 ?side2 A2.out).mono ?_); (case side1 => repeat (first | exact (Kd.C_below HR0_1.out HB.out) | (with_reducible refine Kd.C_alloc ?_ _) | (with_reducible refine Kd.C_drewN ?_ _) | (with_reducible refine Kd.C_drew ?_))); (case side2 => exact HC0_1.out); rintro e w6 ⟨rfl, hb⟩; refine ⟨_, rfl, ?_⟩; have n0_ := Ax.mk (bB (bT BK121.out) hb); have n1_ := Ax.mk (bP bA hb); clear BK121; clear HB; have BK121 := n0_; have HB := n1_; clear n0_ n1_; (try clear hb); (try clear hb2); (try clear hk); (try clear hi)))
  go_ret2
  exact ⟨by first | rfl | (simp [errW_none, errW_some] <;> rfl) | (simp [*, errW_none, errW_some] <;> rfl), bA⟩
 ·replace c3 := Bool.eq_false_iff.mpr c3
  subst c3
  have H1 : ((step_Step.f l0_1).bind fun t123 => ((some (([(⟨8, 0, 0, a0_0, (⟨#[]⟩ : ByteArray)⟩ : S24)] : List (S24)) : List (S24))).bind fun y126 => (if t123.length + y126.length < 2932031007402 then ((journal_put.f k (t123 ++ y126)).bind fun bt132 => (some (bt132.1, bt132.2))) else (none)))) = some (r1, r2) := by rw [if_neg (show ¬ (false = true) by decide)] at H; exact H
  clear H
  have H := H1
  clear H1
  replace H := Option.bind_eq_some_iff.mp H
  obtain ⟨t123, A70, H⟩ := H
  replace H : ((some (([(⟨8, 0, 0, a0_0, (⟨#[]⟩ : ByteArray)⟩ : S24)] : List (S24)) : List (S24))).bind fun y126 => (if t123.length + y126.length < 2932031007402 then ((journal_put.f k (t123 ++ y126)).bind fun bt132 => (some (bt132.1, bt132.2))) else (none))) = some (r1, r2) := H
  have A7 := Ax.mk A70
  clear A70
  obtain ⟨y126, hy126⟩ : ∃ y_ : List (S24), y_ = (([(⟨8, 0, 0, a0_0, (⟨#[]⟩ : ByteArray)⟩ : S24)] : List (S24))) := ⟨_, rfl⟩
  replace H : (if t123.length + y126.length < 2932031007402 then ((journal_put.f k (t123 ++ y126)).bind fun bt132 => (some (bt132.1, bt132.2))) else (none)) = some (r1, r2) := by first | (rw [hy126]; with_reducible exact H) | (have H2_ := (Option.bind_some _ _).symm.trans H; rw [hy126]; with_reducible exact H2_) | (have H2_ := (Option.bind_some _ _).symm.trans H; with_reducible exact H2_) | with_reducible exact H | (rw [hy126]; exact H) | exact H
  have Ny126 := Ax.mk hy126
  clear hy126
  by_cases c8 : t123.length + y126.length < 2932031007402
  ·rw [if_pos c8] at H
   have LMc8 := Ax.mk c8
   clear c8
   obtain ⟨y129, hy129⟩ : ∃ y_ : List (S24), y_ = (t123 ++ y126) := ⟨_, rfl⟩
   replace H : ((journal_put.f k y129).bind fun bt132 => (some (bt132.1, bt132.2))) = some (r1, r2) := by first | (rw [hy129]; with_reducible exact H) | (have H2_ := (Option.bind_some _ _).symm.trans H; rw [hy129]; with_reducible exact H2_) | (have H2_ := (Option.bind_some _ _).symm.trans H; with_reducible exact H2_) | with_reducible exact H | (rw [hy129]; exact H) | exact H
   have Ny129 := Ax.mk hy129
   clear hy129
   replace H := Option.bind_eq_some_iff.mp H
   obtain ⟨⟨t132, t133⟩, A90, H⟩ := H
   replace H : (some (t132, t133)) = some (r1, r2) := H
   have A9 := Ax.mk A90
   clear A90
   simp only [Option.some.injEq, Prod.mk.injEq] at H
   obtain ⟨rfl, rfl⟩ := H
   go_enter Tryd.func74, Tryd.ntmps74
   try go_wp2_with (first | ((with_reducible refine gate_dst (N := 1) rfl ?_); refine box_event ?hg (N := 1) ?hd (cs := #[.int .u64 a0_0, .slice A0_1 l0_1.length c0_1]) (t := 44) ?hr ?_; (case hd => rfl); (case hg => rfl); (case hr => first | (go_simp; done) | (go_simp; rfl)); intro gb121 hg w10 hbox hb; have n0_ := Ax.mk (bP bA hb); have n1_ := Ax.mk (hbox); have n2_ := Ax.mk ((ge_new hg : w.heap.size ≤ gb121)); have n3_ := n2_; clear HB; have HB := n0_; have BK121 := n1_; have GW121 := n2_; have GE121 := n3_; clear n0_ n1_ n2_ n3_; clear hb hbox hg; have hcz11_0 : w10.cell? ⟨gb121, 0, none⟩ = some (.int .u64 a0_0) := (bC BK121.out 0).trans rfl; have hcz11_1 : w10.cell? ⟨gb121, 1, none⟩ = some (.slice A0_1 l0_1.length c0_1) := (bC BK121.out 1).trans rfl; have hfz11_0 := bF BK121.out 0; have hfz11_1 := bF BK121.out 1) | ((with_reducible refine gate_callee (f := 79) rfl ?_); refine goesL_ (some 6) rfl rfl Tryd.func79 (by kernel_rfl) rfl #[.slice A0_1 l0_1.length c0_1, .func (.func 80) #[] #[]] rfl (by (try simp only [List.map_toArray, List.map_cons, List.map_nil]); first | done | rfl | (simp only [List.length_drop, List.length_take]; rfl) | (rw [wrap_sum2 (by assumption)]; rfl)) ?_; (with_reducible refine (step_Step_contains.calls _ _ l0_1 false _ ?side1 ?side2 A2.out).mono ?_); (case side1 => repeat (first | exact (Kd.C_below HR0_1.out HB.out) | (with_reducible refine Kd.C_alloc ?_ _) | (with_reducible refine Kd.C_drewN ?_ _) | (with_reducible refine Kd.C_drew ?_))); (case side2 => exact HC0_1.out); rintro e w12 ⟨rfl, hb⟩; refine ⟨_, rfl, ?_⟩; have n0_ := Ax.mk (bB (bT BK121.out) hb); have n1_ := Ax.mk (bP bA hb); clear BK121; clear HB; have BK121 := n0_; have HB := n1_; clear n0_ n1_; (try clear hb); (try clear hb2); (try clear hk); (try clear hi)))
   have n0_ := Ax.mk (blk_drew BK121.out)
   have n1_ := Ax.mk (below_drew1 HB.out)
   clear BK121
   clear HB
   have BK121 := n0_
   have HB := n1_
   clear n0_ n1_
   refine start_ (n := 13) (S := fun w' => w'.cell? ⟨gb121, 0, none⟩ = some (.int .u64 a0_0) ∧ w'.cell? ⟨gb121, 1, none⟩ = some (.slice A0_1 l0_1.length c0_1)) (ds := []) (TF 0 13) (by kernel_rfl) rfl rfl ⟨(bC BK121.out 0).trans rfl, (bC BK121.out 1).trans rfl⟩ (fun hHeld => ?_); refine with_tabW journal_closed.tab3 journal_closed.bits3 (fun HT_ HW_ => ?_)
   generalize w12.drew = w13 at BK121 HB hHeld ⊢
   refine pure_ (i := 0) (N := some 7) (v := ?_) (a' := ?_) (TF 1 12) rfl rfl (any_of HT_.out (by kernel_rfl)) (fun _ _ _ h => h) (Or.inl ⟨by rfl, ?_⟩) ?_ ?_
   rotate_left; · intro w'; go_simp; with_reducible rfl
   rotate_left; · simp only [Act.put, sI, sZ, sS, i64_w, i32_w]; rfl
   refine pure_ (i := 3) (N := some 10) (v := ?_) (a' := ?_) (BT 13 9) rfl rfl (any_of HT_.out (by kernel_rfl)) (fun _ _ _ h => h) (Or.inl ⟨by rfl, ?_⟩) ?_ ?_
   rotate_left; · intro w'; go_simp; with_reducible rfl
   rotate_left; · simp only [Act.put, sI, sZ, sS, i64_w, i32_w]; rfl
   refine take_ (i := 1) (N := some 8) (v := ?_) (a' := ?_) (BT 13 11) rfl rfl (take_ofW HT_.out HW_.out (by kernel_rfl)) (fun _ _ _ h => h) (Or.inl ⟨by rfl, ?_⟩) hHeld ?_ ?_
   rotate_left
   ·rintro w' ⟨s0, s1⟩
    go_simp
    with_reducible rfl
   rotate_left
   ·simp only [Act.put, sI, sZ, sS, i64_w, i32_w]
    rfl
   refine take_ (i := 4) (N := some 11) (v := ?_) (a' := ?_) (BT 13 27) rfl rfl (take_ofW HT_.out HW_.out (by kernel_rfl)) (fun _ _ _ h => h) (Or.inl ⟨by rfl, ?_⟩) hHeld ?_ ?_
   rotate_left
   ·rintro w' ⟨s0, s1⟩
    go_simp
    with_reducible rfl
   rotate_left
   ·simp only [Act.put, sI, sZ, sS, i64_w, i32_w]
    rfl
   refine pure_ (i := 5) (N := some 12) (v := ?_) (a' := ?_) (BT 13 59) rfl rfl (any_of HT_.out (by kernel_rfl)) (fun _ _ _ h => h) (Or.inl ⟨by rfl, ?_⟩) ?_ ?_
   rotate_left; · intro w'; go_simp; with_reducible rfl
   rotate_left; · simp only [Act.put, sI, sZ, sS, i64_w, i32_w]; rfl
   refine join_ (σ := Value × Value) 6 (TF 7 6) (fun s_ => [(9, s_.1), (13, s_.2)]) (fun s_ w' => (w'.cell? ⟨gb121, 0, none⟩ = some (.int .u64 a0_0) ∧ w'.cell? ⟨gb121, 1, none⟩ = some (.slice A0_1 l0_1.length c0_1)) ∧ (Kd.R k24 24 w' w.heap.size (fun k_ => some k_ ≠ (s_.2 : Value).ownBlock) s_.1 t123) ∧ (Kd.R k24 24 w' w.heap.size (fun k_ => some k_ ≠ (s_.1 : Value).ownBlock) s_.2 y126) ∧ (w'.heap[gb121]? = some (.cells #[.int .u64 a0_0, .slice A0_1 l0_1.length c0_1] 44 (0, 0))) ∧ (Below w.heap.size w w')) ?_ ?_
   rotate_left
   ·intro hCont
    refine two_ (i := 2) (j := 6) (Ni := some 9) (Nj := some 13) (TF 6 7) (BT 13 123) rfl rfl rfl rfl (two_of HT_.out (by kernel_rfl)) (by decide) (by decide) (fun K hK => ?_) (fun K hK => ?_)
    ·skip
     refine goes_ Tryd.func53 (by kernel_rfl) rfl #[.slice A0_1 l0_1.length c0_1] (by rfl) rfl rfl (by (try simp only [List.map_toArray, List.map_cons, List.map_nil]); first | done | rfl | (simp only [List.length_drop, List.length_take]; rfl) | (rw [wrap_sum2 (by assumption)]; rfl)) ?_
     with_reducible refine (step_Step.calls _ _ l0_1 t123 _ ?side1 ?side2 A7.out).mono ?_
     (case side1 => repeat (first | exact (Kd.C_below HR0_1.out HB.out) | (with_reducible refine Kd.C_alloc ?_ _) | (with_reducible refine Kd.C_drewN ?_ _) | (with_reducible refine Kd.C_drew ?_)))
     (case side2 => exact HC0_1.out)
     rintro e w14 ⟨v124, rfl, ho0, hb⟩
     refine ⟨_, rfl, ?_⟩
     have n0_ := Ax.mk (Kd.R_lower ho0 (bS bA))
     have n1_ := Ax.mk (bB (bT BK121.out) hb)
     have n2_ := Ax.mk (bP bA hb)
     clear BK121
     clear HB
     have HO125 := n0_
     have BK121 := n1_
     have HB := n2_
     clear n0_ n1_ n2_
     (try clear hb)
     (try clear hb2)
     (try clear hk)
     (try clear hi)
     (try clear ho0)
     refine hK.out _ _ ⟨(bC BK121.out 0).trans rfl, (bC BK121.out 1).trans rfl⟩ (fun hHeld => ?_)
     clear hK K
     refine norm_ (a' := ?_) ?_ ?_
     rotate_left
     ·show Act.put _ (some 9) _ = _
      simp only [Act.put, sI, sZ, sS, i64_w, i32_w]
      rfl
     refine one_ (i := 6) (N := some 13) (TF 7 6) rfl rfl (one_of HT_.out (by kernel_rfl)) (by decide) (fun K hK => ?_)
     refine Kd.R_lit_step k24 _ 24 ?hg (N := 13) ?hd (xs := ([(⟨8, 0, 0, a0_0, (⟨#[]⟩ : ByteArray)⟩ : S24)] : List (S24))) (inner := [.int .i64 8, .int .i64 0, .int .i64 0, .int .u64 a0_0, .string (⟨#[]⟩ : ByteArray)]) (ok := fun _ => True) (okp := fun _ => True) ?hr ?hp (fun _ hk => hk) trivial (Below.refl _ _) (Nat.le_refl _) (by simp) ?_; (case hd => rfl); (case hg => rfl); (case hr => first | (go_simp; done) | (go_simp; rfl)); (case hp => exact (Reps.c5 (show Kd.M k24 _ _ _ (⟨8, 0, 0, a0_0, (⟨#[]⟩ : ByteArray)⟩ : S24) [.int .i64 8, .int .i64 0, .int .i64 0, .int .u64 a0_0, .string (⟨#[]⟩ : ByteArray)] from (k24_mkM _ _ _ (⟨8, 0, 0, a0_0, (⟨#[]⟩ : ByteArray)⟩ : S24) )) (Reps.none _ _)))
     intro v127 w15 ho16 hb hg_ hnew_
     clear hg_ hnew_
     (first | rw [← Ny126.out] at ho16 | (simp only [Int.reduceToNat] at ho16; rw [← Ny126.out] at ho16))
     have n0_ := Ax.mk (Kd.R_elder' (by exact Kd.R_to HO125.out) (Kd.R_base ho16) hb)
     have n1_ := Ax.mk (Kd.R_lower (Kd.R_new' ho16 (Kd.R_lt (by exact Kd.R_to HO125.out))) (bS bA))
     have n2_ := Ax.mk (bB (bT BK121.out) hb)
     have n3_ := Ax.mk (bP bA hb)
     clear HO125
     clear BK121
     clear HB
     have HO125 := n0_
     have HO128 := n1_
     have BK121 := n2_
     have HB := n3_
     clear n0_ n1_ n2_ n3_
     clear hb ho16
     refine hK.out _ _ ⟨(bC BK121.out 0).trans rfl, (bC BK121.out 1).trans rfl⟩ (fun hHeld => ?_)
     clear hK K
     refine norm_ (a' := ?_) ?_ ?_
     rotate_left
     ·show Act.put _ (some 13) _ = _
      simp only [Act.put, sI, sZ, sS, i64_w, i32_w]
      rfl
     exact norm_ (by simp only [putAll, Act.put, sI, sZ, sS]) (hCont (v124, v127) _ ⟨hHeld, (by apply Kd.R_to; exact Kd.R_mono HO125.out (fun _ hk => hk.2)), (by apply Kd.R_to; exact Kd.R_mono HO128.out (fun _ hk => hk.2)), (bT BK121.out), bA⟩)
    ·skip
     refine Kd.R_lit_step k24 _ 24 ?hg (N := 13) ?hd (xs := ([(⟨8, 0, 0, a0_0, (⟨#[]⟩ : ByteArray)⟩ : S24)] : List (S24))) (inner := [.int .i64 8, .int .i64 0, .int .i64 0, .int .u64 a0_0, .string (⟨#[]⟩ : ByteArray)]) (ok := fun _ => True) (okp := fun _ => True) ?hr ?hp (fun _ hk => hk) trivial (Below.refl _ _) (Nat.le_refl _) (by simp) ?_; (case hd => rfl); (case hg => rfl); (case hr => first | (go_simp; done) | (go_simp; rfl)); (case hp => exact (Reps.c5 (show Kd.M k24 _ _ _ (⟨8, 0, 0, a0_0, (⟨#[]⟩ : ByteArray)⟩ : S24) [.int .i64 8, .int .i64 0, .int .i64 0, .int .u64 a0_0, .string (⟨#[]⟩ : ByteArray)] from (k24_mkM _ _ _ (⟨8, 0, 0, a0_0, (⟨#[]⟩ : ByteArray)⟩ : S24) )) (Reps.none _ _)))
     intro v127 w14 ho15 hb hg_ hnew_
     clear hg_ hnew_
     (first | rw [← Ny126.out] at ho15 | (simp only [Int.reduceToNat] at ho15; rw [← Ny126.out] at ho15))
     have n0_ := Ax.mk (Kd.R_lower ho15 (bS bA))
     have n1_ := Ax.mk (bB (bT BK121.out) hb)
     have n2_ := Ax.mk (bP bA hb)
     clear BK121
     clear HB
     have HO128 := n0_
     have BK121 := n1_
     have HB := n2_
     clear n0_ n1_ n2_
     clear hb ho15
     refine hK.out _ _ ⟨(bC BK121.out 0).trans rfl, (bC BK121.out 1).trans rfl⟩ (fun hHeld => ?_)
     clear hK K
     refine norm_ (a' := ?_) ?_ ?_
     rotate_left
     ·show Act.put _ (some 13) _ = _
      simp only [Act.put, sI, sZ, sS, i64_w, i32_w]
      rfl
     refine one_ (i := 2) (N := some 9) (TF 7 6) rfl rfl (one_of HT_.out (by kernel_rfl)) (by decide) (fun K hK => ?_)
     refine goes_ Tryd.func53 (by kernel_rfl) rfl #[.slice A0_1 l0_1.length c0_1] (by rfl) rfl rfl (by (try simp only [List.map_toArray, List.map_cons, List.map_nil]); first | done | rfl | (simp only [List.length_drop, List.length_take]; rfl) | (rw [wrap_sum2 (by assumption)]; rfl)) ?_
     with_reducible refine (step_Step.calls _ _ l0_1 t123 _ ?side1 ?side2 A7.out).mono ?_
     (case side1 => repeat (first | exact (Kd.C_below HR0_1.out HB.out) | (with_reducible refine Kd.C_alloc ?_ _) | (with_reducible refine Kd.C_drewN ?_ _) | (with_reducible refine Kd.C_drew ?_)))
     (case side2 => exact HC0_1.out)
     rintro e w16 ⟨v124, rfl, ho0, hb⟩
     refine ⟨_, rfl, ?_⟩
     have n0_ := Ax.mk (Kd.R_elder' (by exact Kd.R_to HO128.out) (Kd.R_base ho0) hb)
     have n1_ := Ax.mk (Kd.R_lower (Kd.R_new' ho0 (Kd.R_lt (by exact Kd.R_to HO128.out))) (bS bA))
     have n2_ := Ax.mk (bB (bT BK121.out) hb)
     have n3_ := Ax.mk (bP bA hb)
     clear HO128
     clear BK121
     clear HB
     have HO128 := n0_
     have HO125 := n1_
     have BK121 := n2_
     have HB := n3_
     clear n0_ n1_ n2_ n3_
     (try clear hb)
     (try clear hb2)
     (try clear hk)
     (try clear hi)
     (try clear ho0)
     refine hK.out _ _ ⟨(bC BK121.out 0).trans rfl, (bC BK121.out 1).trans rfl⟩ (fun hHeld => ?_)
     clear hK K
     refine norm_ (a' := ?_) ?_ ?_
     rotate_left
     ·show Act.put _ (some 9) _ = _
      simp only [Act.put, sI, sZ, sS, i64_w, i32_w]
      rfl
     exact norm_ (by simp only [putAll, Act.put, sI, sZ, sS]) (hCont (v124, v127) _ ⟨hHeld, (by apply Kd.R_to; exact Kd.R_mono HO125.out (fun _ hk => hk.2)), (by apply Kd.R_to; exact Kd.R_mono HO128.out (fun _ hk => hk.2)), (bT BK121.out), bA⟩)
   rintro ⟨v124, v127⟩ w17 ⟨hS_, h0_, h1_, h2_, h3_⟩
   have n0_ : Ax (Kd.R k24 24 w17 w.heap.size (fun k_ => some k_ ≠ (v127 : Value).ownBlock) v124 t123) := ⟨h0_⟩
   have n1_ : Ax (Kd.R k24 24 w17 w.heap.size (fun k_ => some k_ ≠ (v124 : Value).ownBlock) v127 y126) := ⟨h1_⟩
   have n2_ : Ax (w17.heap[gb121]? = some (.cells #[.int .u64 a0_0, .slice A0_1 l0_1.length c0_1] 44 (0, 0))) := ⟨h2_⟩
   have n3_ : Ax (Below w.heap.size w w17) := ⟨h3_⟩
   clear BK121
   clear HB
   clear h0_ h1_ h2_ h3_
   have HO125 := n0_
   have HO128 := n1_
   have BK121 := n2_
   have HB := n3_
   clear n0_ n1_ n2_ n3_
   have hHeld : w17.cell? ⟨gb121, 0, none⟩ = some (.int .u64 a0_0) ∧ w17.cell? ⟨gb121, 1, none⟩ = some (.slice A0_1 l0_1.length c0_1) := hS_
   obtain ⟨Ao19, co19, eo19⟩ := Kd.R_slice HO128.out
   (first | subst eo19 | (injection eo19 with f1_ f2_ f3_; have f4_ := f1_.symm; have f5_ := f3_.symm; clear f1_ f2_ f3_; subst f4_; subst f5_))
   refine norm_ (a' := ?_) ?_ ?_
   rotate_left
   ·simp only [putAll, Act.put, sI, sZ, sS]
    rfl
   refine one_ (i := 7) (N := some 14) (TF 8 5) rfl rfl (one_of HT_.out (by kernel_rfl)) (by decide) (fun K hK => ?_)
   refine Kd.R_append_rows_step k24 (w0 := w) w.heap.size (by rfl) (.tmp 9) (.tmp 13) 29 24 (.agg #[(.int .i64 0), (.int .i64 0), (.int .i64 0), (.int .u64 0), (.string ⟨#[]⟩)]) 48 rfl Tryd.underlying29 info24 rfl (by decide) (by omega) v124 t123 y126 _ _ _ (fun k_ => some k_ ≠ (.slice Ao19 y126.length co19 : Value).ownBlock) (fun _ => False) rfl rfl ?aO ?aR (fun _ _ h => h) (fun _ h => h.elim) ?aF ?aB ?aS ?aL ?_
   (case aR => repeat (first | exact (Kd.R_reads' HO128.out).2.2 | (with_reducible refine Kd.C_alloc ?_ _) | (with_reducible refine Kd.C_drewN ?_ _) | (with_reducible refine Kd.C_drew ?_)))
   (case aB => exact bA)
   (case aF => exact (fun k_ hk => Kd.fresh' (Kd.R_lt (by exact Kd.R_to HO128.out)) k_ hk))
   (case aO => exact (by exact Kd.R_to HO125.out))
   (case aS => exact (bS bA))
   (case aL => have := LMc8.out; omega)
   intro v130 w18 ho hb hg hat
   rw [← Ny129.out] at ho
   have n0_ := Ax.mk (blk_grown (g := gb121) (o := .cells #[.int .u64 a0_0, .slice A0_1 l0_1.length c0_1] 44 (0, 0)) (bT BK121.out) hg (Kd.R_ne HO125.out BK121.out (by decide)))
   have n1_ := Ax.mk (Kd.R_after (ok := (fun _ => True)) (by apply Kd.R_to; exact Kd.R_mono HO128.out (fun _ hk => ⟨trivial, hk⟩)) hg hat)
   have n2_ := Ax.mk (hb)
   have n3_ := Ax.mk (ho)
   clear BK121
   clear HO128
   clear HB
   clear HO125
   have BK121 := n0_
   have HO128 := n1_
   have HB := n2_
   have HO131 := n3_
   clear n0_ n1_ n2_ n3_
   clear ho hb hg hat
   obtain ⟨Ao20, co20, eo20⟩ := Kd.R_slice HO131.out
   (first | subst eo20 | (injection eo20 with f1_ f2_ f3_; have f4_ := f1_.symm; have f5_ := f3_.symm; clear f1_ f2_ f3_; subst f4_; subst f5_))
   refine hK.out _ _ ⟨(bC BK121.out 0).trans rfl, (bC BK121.out 1).trans rfl⟩ (fun hHeld => ?_)
   clear hK K
   refine norm_ (a' := ?_) ?_ ?_
   rotate_left
   ·show Act.put _ (some 14) _ = _
    simp only [Act.put, sI, sZ, sS, i64_w, i32_w]
    rfl
   refine one_ (i := 8) (N := some 15) (TF 9 4) rfl rfl (one_of HT_.out (by kernel_rfl)) (by decide) (fun K hK => ?_)
   refine goes_ Tryd.func81 (by kernel_rfl) rfl #[.slice Ao20 y129.length co20] (by rfl) rfl rfl (by (try simp only [List.map_toArray, List.map_cons, List.map_nil]); first | done | rfl | (simp only [List.length_drop, List.length_take]; rfl) | (rw [wrap_sum2 (by assumption)]; rfl)) ?_
   with_reducible refine (journal_put.calls k _ _ y129 t132 t133 _ ?side1 ?side2 A9.out (HT.below bA)).mono ?_
   (case side1 => repeat (first | exact (Kd.R_reads' HO131.out).2.2 | (with_reducible refine Kd.C_alloc ?_ _) | (with_reducible refine Kd.C_drewN ?_ _) | (with_reducible refine Kd.C_drew ?_)))
   (case side2 => exact (Kd.R_reads' HO131.out).2.1)
   rintro e w21 ⟨rfl, hb⟩
   refine ⟨_, rfl, ?_⟩
   have n0_ := Ax.mk (Kd.R_below (by exact Kd.R_to HO128.out) hb)
   have n1_ := Ax.mk (Kd.R_below (by exact Kd.R_to HO131.out) hb)
   have n2_ := Ax.mk (bB (bT BK121.out) hb)
   have n3_ := Ax.mk (bP bA hb)
   clear HO128
   clear HO131
   clear BK121
   clear HB
   have HO128 := n0_
   have HO131 := n1_
   have BK121 := n2_
   have HB := n3_
   clear n0_ n1_ n2_ n3_
   (try clear hb)
   (try clear hb2)
   (try clear hk)
   (try clear hi)
   refine hK.out _ _ ⟨(bC BK121.out 0).trans rfl, (bC BK121.out 1).trans rfl⟩ (fun hHeld => ?_)
   clear hK K
   refine norm_ (a' := ?_) ?_ ?_
   rotate_left
   ·show Act.put _ (some 15) _ = _
    simp only [Act.put, sI, sZ, sS, i64_w, i32_w]
    rfl
   refine pure_ (i := 9) (N := some 16) (v := ?_) (a' := ?_) (TF 10 3) rfl rfl (any_of HT_.out (by kernel_rfl)) (fun _ _ _ h => h) (Or.inl ⟨by rfl, ?_⟩) ?_ ?_
   rotate_left; · intro w'; go_simp; with_reducible rfl
   rotate_left; · simp only [Act.put, sI, sZ, sS, i64_w, i32_w]; rfl
   refine pure_ (i := 10) (N := some 17) (v := ?_) (a' := ?_) (TF 11 2) rfl rfl (any_of HT_.out (by kernel_rfl)) (fun _ _ _ h => h) (Or.inl ⟨by rfl, ?_⟩) ?_ ?_
   rotate_left; · intro w'; go_simp; with_reducible rfl
   rotate_left; · simp only [Act.put, sI, sZ, sS, i64_w, i32_w]; rfl
   refine pure_ (i := 11) (N := some 2) (v := ?_) (a' := ?_) (TF 12 1) rfl rfl (any_of HT_.out (by kernel_rfl)) (fun _ _ _ h => h) (Or.inl ⟨by rfl, ?_⟩) ?_ ?_
   rotate_left; · intro w'; go_simp; with_reducible rfl
   rotate_left; · simp only [Act.put, sI, sZ, sS, i64_w, i32_w]; rfl
   refine pure_ (i := 12) (N := some 3) (v := ?_) (a' := ?_) (TF 13 0) rfl rfl (any_of HT_.out (by kernel_rfl)) (fun _ _ _ h => h) (Or.inl ⟨by rfl, ?_⟩) ?_ ?_
   rotate_left; · intro w'; go_simp; with_reducible rfl
   rotate_left; · simp only [Act.put, sI, sZ, sS, i64_w, i32_w]; rfl
   refine done_ (done_of HT_.out (by kernel_rfl)) ?_
   try go_wp2
   go_ret2
   exact ⟨by first | rfl | (simp [errW_none, errW_some] <;> rfl) | (simp [*, errW_none, errW_some] <;> rfl), bA⟩
  ·rw [if_neg c8] at H
   exact absurd H (by simp)
def step_Group.f (l : List S44) : Option (List S44) := if l.length ≤ 1000000000 then some l else none
set_option maxHeartbeats 4000000 in
set_option maxRecDepth 100000 in
theorem step_Group.calls (P0_ : Nat → Prop) (A0 : Option Addr) (c0 : Nat) (l0 r1 : List S44) (w : World) (hs0 : Kd.V k44 44 w w.heap.size (fun k_ => P0_ k_) (.slice A0 l0.length c0) l0) (h : step_Group.f l0 = some r1) :
  Calls Tryd.prog 75 #[.slice A0 l0.length c0] w fun e w' => ∃ v0_ : Value, e = .returned v0_ ∧ Kd.N k44 44 w' w.heap.size (fun k_ => (P0_ k_ ∨ w.heap.size ≤ k_)) v0_ r1 ∧ Below w.heap.size w w' := by
 unfold step_Group.f at h
 split at h
 case isFalse => cases h
 rename_i hn
 cases h
 obtain ⟨A, c, hv, hl, hF⟩ := hs0
 cases hv
 have q22 : ∀ (w : World) (a : Option Addr) (n c n' c' : Nat), (binOp .eql 37 (.slice a n c) (.slice none n' c')).run Tryd.prog w = .ok (.bool a.isNone) w := fun w a n c n' c' => Lib.run_eql_slice_nil w _ _ a n c n' c' Tryd.underlying37
 cases A0 with
 | none =>
  have hl0 : l0 = [] := by
   rcases Nat.eq_zero_or_pos l0.length with h0 | h0
   ·exact List.eq_nil_of_length_eq_zero h0
   ·obtain ⟨ad, e, _⟩ := (Kd.F_now hF).2.2 h0
    cases e
  subst hl0
  clear hF
  go_enter Tryd.func75, Tryd.ntmps75
  go_wp2
  go_ret
  exact ⟨_, rfl, Kd.N_nil _ _ _ _ _, Below.refl _ _⟩
 | some ad =>
  have HF := Ax.mk hF
  clear hF
  have HN := Ax.mk (show Kd.N k44 44 (w.alloc (.cells #[] 44)) w.heap.size (fun k => P0_ k ∨ w.heap.size ≤ k) (.slice (some ⟨w.heap.size, 0, none⟩) 0 0) [] from
   Kd.R_N ⟨fun k hk => .inr (by simp [Value.ownBlock] at hk; omega), [], World.ownsRow_made w #[] 0 (Nat.le_refl _) (Nat.zero_le _) (by simp), ⟨rfl, fun j p hj => by simp at hj⟩⟩)
  go_enter Tryd.func75, Tryd.ntmps75
  go_wp2_with (at_builtin; refine Kd.N_append_rows k44 (w0 := w) w.heap.size rfl (.tmp 5) (.tmp 6) 37 44 _ 32 rfl Tryd.underlying37 info44 rfl (by decide) (by omega) (.slice (some ⟨w.heap.size, 0, none⟩) 0 0) [] l0 (some ad) l0.length c0 (fun k => P0_ k ∨ w.heap.size ≤ k) (fun k => P0_ k ∧ k < w.heap.size) rfl rfl HN.out ?qF ?qO ?qR ?qB ?qZ ?qL ?_)
  case qF => exact Kd.F_below (Kd.F_bound HF.out) (below_alloc (Below.refl _ _) _)
  case qO =>
   rintro k ⟨hk, hlt⟩
   exact ⟨.inl hk, by simp [Value.ownBlock]; omega⟩
  case qR => intro k hk; simp at hk; exact .inr (by omega)
  case qB => exact below_alloc (Below.refl _ _) _
  case qZ => simp
  case qL => simp; omega
  intro v1 w1 hN1 hb1 _ _
  go_wp2
  go_ret
  exact ⟨v1, rfl, by simpa using hN1, hb1⟩
end Go.Proofs.YtboommbclbjlnaaDoor.Fn
end
