-- Packed by pack.py, a program of this session, out of texts of this claim.
import Derived.Test.YtboommbclbjlnaaDoorProg
import Derived.Below
import Derived.Deep.Draws
import Derived.Deep.AppendLies
import Derived.Maps.AppendAt
import Derived.OwnWalk
import Derived.Laws.BytesArg
import Derived.Laws.MakeOwn
import Derived.Laws.OwnMore
import Derived.Deep.OwnRows
import Derived.Tactics
import Derived.Lib.ConvBytes
import Derived.Laws.Slices
import Derived.WalkKit
import Derived.KernelRfl
import Derived.RowKit3
import Derived.Deep.LoopGhost
import Derived.Deep.QuietTactic
import Derived.BigQuiet
import Derived.WideLaws
import Derived.Deep.DeepCutAuto
import Derived.Deep.CutBlock
import Derived.Deep.RegionHeld3
import Derived.Laws.Rows
import Derived.Lib.AppendStr
import Derived.ArgAppend
import Derived.Laws.IdiomCopy
import Derived.OrdersHeld
import Derived.Laws.BitsLemmas
import Derived.RowKit
import Derived.Test.YtboommbclbjlnaaDoorLfLe
import Derived.Test.YtboommbclbjlnaaDoorLfSum
import Derived.Test.YtboommbclbjlnaaDoorLfRight
import Derived.Test.YtboommbclbjlnaaDoorClJournalTorn0
import Derived.Lib.SliceRun
import Derived.Lib.Walk
import Derived.LoopTactic
import Derived.Test.YtboommbclbjlnaaDoorLfShelf
import Derived.Test.YtboommbclbjlnaaDoorLfBuild
import Derived.Lib.Hide
section
-- Written by printx.py, a program of this session over the kit's print: each Go function as a plain Lean function, and that the Go code computes it.
namespace Go.Proofs.YtboommbclbjlnaaDoor.Fn
open Go.RowKit Go.Proofs.YtboommbclbjlnaaDoorW.PrintWords Go.Proofs.YtboommbclbjlnaaDoorW.PrintLast Go.Proofs.YtboommbclbjlnaaDoorW.PrintMore Go.Proofs.YtboommbclbjlnaaDoor.Lf
attribute [local go_sem] max2_int min2_int max_two min_two max_three min_three max_four min_four   -- for this text's walks alone
set_option linter.unusedVariables false
set_option linter.unusedSimpArgs false
def errW : Option Int → Value
 | none => .nilIface
 | some c => .iface 0 (.int .i64 c)
theorem errW_none : errW none = .nilIface := rfl
theorem errW_some (c : Int) : errW (some c) = .iface 0 (.int .i64 c) := rfl
theorem info3 : (Tryd.prog.info? 3).map (fun i => (i.zero, i.size, i.bytes)) = some (some (.int .i64 0), 1, 8) := by kernel_rfl
theorem info24 : (Tryd.prog.info? 24).map (fun i => (i.zero, i.size, i.bytes)) = some (some (.agg #[(.int .i64 0), (.int .i64 0), (.int .i64 0), (.int .u64 0), (.string ⟨#[]⟩)]), 5, 48) := by kernel_rfl
theorem info44 : (Tryd.prog.info? 44).map (fun i => (i.zero, i.size, i.bytes)) = some (some (.agg #[(.int .u64 0), (.slice none 0 0)]), 2, 32) := by kernel_rfl
theorem info66 : (Tryd.prog.info? 66).map (fun i => (i.zero, i.size, i.bytes)) = some (some (.agg #[(.int .u64 0), (.slice none 0 0), (.string ⟨#[]⟩)]), 3, 48) := by kernel_rfl
structure S24 where
 f0 : Int
 f1 : Int
 f2 : Int
 f3 : Int
 f4 : ByteArray
def z24 : S24 := ⟨(0 : Int), (0 : Int), (0 : Int), (0 : Int), (⟨#[]⟩ : ByteArray)⟩
def k24 : Kd S24 := Kd.iso (Kd.pair (Kd.int .i64) (Kd.pair (Kd.int .i64) (Kd.pair (Kd.int .i64) (Kd.pair (Kd.int .u64) Kd.string)))) (fun x : S24 => (x.f0, x.f1, x.f2, x.f3, x.f4))
theorem k24_open {w : World} {x : S24} {cs : List Value} (h : k24.K w x cs) : cs = [.int .i64 x.f0, .int .i64 x.f1, .int .i64 x.f2, .int .u64 x.f3, .string x.f4] := by
 obtain ⟨_, _, rfl, rfl, ⟨_, _, rfl, rfl, ⟨_, _, rfl, rfl, ⟨_, _, rfl, rfl, rfl⟩⟩⟩⟩ := h
 exact rfl
theorem k24_mk (w : World) (x : S24)  : k24.K w x [.int .i64 x.f0, .int .i64 x.f1, .int .i64 x.f2, .int .u64 x.f3, .string x.f4] := ⟨[.int .i64 x.f0], [.int .i64 x.f1, .int .i64 x.f2, .int .u64 x.f3, .string x.f4], rfl, rfl, ⟨[.int .i64 x.f1], [.int .i64 x.f2, .int .u64 x.f3, .string x.f4], rfl, rfl, ⟨[.int .i64 x.f2], [.int .u64 x.f3, .string x.f4], rfl, rfl, ⟨[.int .u64 x.f3], [.string x.f4], rfl, rfl, rfl⟩⟩⟩⟩
theorem k24_mkM (w : World) (base : Nat) (ok : Nat → Prop) (x : S24)  : k24.M w base ok x [.int .i64 x.f0, .int .i64 x.f1, .int .i64 x.f2, .int .u64 x.f3, .string x.f4] := ⟨[.int .i64 x.f0], [.int .i64 x.f1, .int .i64 x.f2, .int .u64 x.f3, .string x.f4], rfl, rfl, ⟨[.int .i64 x.f1], [.int .i64 x.f2, .int .u64 x.f3, .string x.f4], rfl, rfl, ⟨[.int .i64 x.f2], [.int .u64 x.f3, .string x.f4], rfl, rfl, ⟨[.int .u64 x.f3], [.string x.f4], rfl, rfl, rfl⟩⟩⟩⟩
def rd_T24 (xs : List S24) (i : Int) : S24 := xs.getD i.toNat z24
theorem at_T24 {w : World} {A : Option Addr} {n : Nat} {xs : List S24} (h : Kd.C k24 w A n xs) (i : Int) (h0 : 0 ≤ i) (h1 : i < n) : ∃ ad , A = some ad ∧ w.cell? (ad.add (i.toNat * 5)) = some (.int .i64 (rd_T24 xs i).f0) ∧ w.cell? ⟨(ad.add (i.toNat * 5)).block, (ad.add (i.toNat * 5)).off + 1, none⟩ = some (.int .i64 (rd_T24 xs i).f1) ∧ w.cell? ⟨(ad.add (i.toNat * 5)).block, (ad.add (i.toNat * 5)).off + 2, none⟩ = some (.int .i64 (rd_T24 xs i).f2) ∧ w.cell? ⟨(ad.add (i.toNat * 5)).block, (ad.add (i.toNat * 5)).off + 3, none⟩ = some (.int .u64 (rd_T24 xs i).f3) ∧ w.cell? ⟨(ad.add (i.toNat * 5)).block, (ad.add (i.toNat * 5)).off + 4, none⟩ = some (.string (rd_T24 xs i).f4) := by
 obtain ⟨ad, c, e, _, hK, hc0⟩ := Kd.C_get h z24 i h0 h1
 have hc : ∀ j u, c[j]? = some u → w.cell? (ad.add (i.toNat * 5 + j)) = some u := hc0
 obtain rfl := k24_open hK
 exact ⟨ad, e, hc 0 _ rfl, by rw [← add_field _ _ 1 (by omega)]; exact hc 1 _ rfl, by rw [← add_field _ _ 2 (by omega)]; exact hc 2 _ rfl, by rw [← add_field _ _ 3 (by omega)]; exact hc 3 _ rfl, by rw [← add_field _ _ 4 (by omega)]; exact hc 4 _ rfl⟩
def rd_L4 (xs : List (List S24)) (i : Int) : (List S24) := xs.getD i.toNat ([] : List S24)
theorem at_L4 {w : World} {A : Option Addr} {n : Nat} {xs : List (List S24)} (h : Kd.C (Kd.slice 24 k24) w A n xs) (i : Int) (h0 : 0 ≤ i) (h1 : i < n) : ∃ ad A0 c0, A = some ad ∧ w.cell? (ad.add i.toNat) = some (.slice A0 (rd_L4 xs i).length c0) ∧ (rd_L4 xs i).length ≤ c0 ∧ k24.C w A0 (rd_L4 xs i).length (rd_L4 xs i) := by
 obtain ⟨ad, c, e, _, hK, hc0⟩ := Kd.C_get h ([] : List S24) i h0 h1
 have hc : ∀ j u, c[j]? = some u → w.cell? (ad.add (i.toNat * 1 + j)) = some u := hc0
 obtain ⟨A0, c0, rfl, l0, g0⟩ := hK
 exact ⟨ad, A0, c0, e, by have hq := hc 0 _ rfl; rwa [Nat.mul_one, Nat.add_zero] at hq, l0, g0⟩
structure S44 where
 f0 : Int
 f1 : (List S24)
def z44 : S44 := ⟨(0 : Int), ([] : List S24)⟩
def k44 : Kd S44 := Kd.iso (Kd.pair (Kd.int .u64) (Kd.slice 24 k24)) (fun x : S44 => (x.f0, x.f1))
theorem k44_open {w : World} {x : S44} {cs : List Value} (h : k44.K w x cs) : ∃ A1 c1, cs = [.int .u64 x.f0, .slice A1 x.f1.length c1] ∧ x.f1.length ≤ c1 ∧ k24.C w A1 x.f1.length x.f1 := by
 obtain ⟨_, _, rfl, rfl, ⟨A1, c1, rfl, l1, g1⟩⟩ := h
 exact ⟨A1, c1, rfl, l1, g1⟩
theorem k44_mk (w : World) (x : S44) {A1 : Option Addr} {c1 : Nat} (l1 : x.f1.length ≤ c1) (g1 : k24.C w A1 x.f1.length x.f1) : k44.K w x [.int .u64 x.f0, .slice A1 x.f1.length c1] := ⟨[.int .u64 x.f0], [.slice A1 x.f1.length c1], rfl, rfl, ⟨A1, c1, rfl, l1, g1⟩⟩
theorem k44_mkF (W : World) (ok : Nat → Prop) (x : S44) {A1 : Option Addr} {c1 : Nat} (l1 : x.f1.length ≤ c1) (g1 : Kd.F k24 W ok A1 x.f1.length x.f1) : Kd.FK k44 W ok x [.int .u64 x.f0, .slice A1 x.f1.length c1] := fun W2 hW => k44_mk W2 x l1 (g1 W2 hW)
def rd_T44 (xs : List S44) (i : Int) : S44 := xs.getD i.toNat z44
theorem at_T44 {w : World} {A : Option Addr} {n : Nat} {xs : List S44} (h : Kd.C k44 w A n xs) (i : Int) (h0 : 0 ≤ i) (h1 : i < n) : ∃ ad A1 c1, A = some ad ∧ w.cell? (ad.add (i.toNat * 2)) = some (.int .u64 (rd_T44 xs i).f0) ∧ w.cell? ⟨(ad.add (i.toNat * 2)).block, (ad.add (i.toNat * 2)).off + 1, none⟩ = some (.slice A1 (rd_T44 xs i).f1.length c1) ∧ (rd_T44 xs i).f1.length ≤ c1 ∧ k24.C w A1 (rd_T44 xs i).f1.length (rd_T44 xs i).f1 := by
 obtain ⟨ad, c, e, _, hK, hc0⟩ := Kd.C_get h z44 i h0 h1
 have hc : ∀ j u, c[j]? = some u → w.cell? (ad.add (i.toNat * 2 + j)) = some u := hc0
 obtain ⟨A1, c1, rfl, l1, g1⟩ := k44_open hK
 exact ⟨ad, A1, c1, e, hc 0 _ rfl, by rw [← add_field _ _ 1 (by omega)]; exact hc 1 _ rfl, l1, g1⟩
def rd_L8 (xs : List (List S44)) (i : Int) : (List S44) := xs.getD i.toNat ([] : List S44)
structure S26 where
 f0 : Int
 f1 : Int
 f2 : Int
 f3 : Int
 f4 : ByteArray
def z26 : S26 := ⟨(0 : Int), (0 : Int), (0 : Int), (0 : Int), (⟨#[]⟩ : ByteArray)⟩
def k26 : Kd S26 := Kd.iso (Kd.pair (Kd.int .i64) (Kd.pair (Kd.int .i64) (Kd.pair (Kd.int .i64) (Kd.pair (Kd.int .u64) Kd.string)))) (fun x : S26 => (x.f0, x.f1, x.f2, x.f3, x.f4))
def rd_T26 (xs : List S26) (i : Int) : S26 := xs.getD i.toNat z26
def rd_L10 (xs : List (List S26)) (i : Int) : (List S26) := xs.getD i.toNat ([] : List S26)
structure S46 where
 f0 : Int
 f1 : (List S26)
def z46 : S46 := ⟨(0 : Int), ([] : List S26)⟩
def k46 : Kd S46 := Kd.iso (Kd.pair (Kd.int .u64) (Kd.slice 26 k26)) (fun x : S46 => (x.f0, x.f1))
def rd_T46 (xs : List S46) (i : Int) : S46 := xs.getD i.toNat z46
structure S66 where
 f0 : Int
 f1 : (List S44)
 f2 : ByteArray
def z66 : S66 := ⟨(0 : Int), ([] : List S44), (⟨#[]⟩ : ByteArray)⟩
def k66 : Kd S66 := Kd.iso (Kd.pair (Kd.int .u64) (Kd.pair (Kd.slice 44 k44) Kd.string)) (fun x : S66 => (x.f0, x.f1, x.f2))
theorem k66_open {w : World} {x : S66} {cs : List Value} (h : k66.K w x cs) : ∃ A1 c1, cs = [.int .u64 x.f0, .slice A1 x.f1.length c1, .string x.f2] ∧ x.f1.length ≤ c1 ∧ k44.C w A1 x.f1.length x.f1 := by
 obtain ⟨_, _, rfl, rfl, ⟨_, _, rfl, ⟨A1, c1, rfl, l1, g1⟩, rfl⟩⟩ := h
 exact ⟨A1, c1, rfl, l1, g1⟩
theorem k66_mk (w : World) (x : S66) {A1 : Option Addr} {c1 : Nat} (l1 : x.f1.length ≤ c1) (g1 : k44.C w A1 x.f1.length x.f1) : k66.K w x [.int .u64 x.f0, .slice A1 x.f1.length c1, .string x.f2] := ⟨[.int .u64 x.f0], [.slice A1 x.f1.length c1, .string x.f2], rfl, rfl, ⟨[.slice A1 x.f1.length c1], [.string x.f2], rfl, ⟨A1, c1, rfl, l1, g1⟩, rfl⟩⟩
theorem k66_openF {W : World} {ok : Nat → Prop} {x : S66} {cs : List Value} (h : Kd.FK k66 W ok x cs) : ∃ A1 c1, cs = [.int .u64 x.f0, .slice A1 x.f1.length c1, .string x.f2] ∧ x.f1.length ≤ c1 ∧ Kd.F k44 W ok A1 x.f1.length x.f1 := by
 obtain ⟨A1, c1, rfl, l1, _⟩ := k66_open (Kd.FK_now h)
 exact ⟨A1, c1, rfl, l1, (fun W' hW => by obtain ⟨A1_, c1_, he, l1_, g1_⟩ := k66_open (h W' hW); injection (Option.some.inj (show some (Value.slice A1 x.f1.length c1) = some (Value.slice A1_ x.f1.length c1_) from congrArg (fun l => l[1]?) he)) with ha_ _ _; rw [ha_]; exact g1_)⟩
theorem k66_mkF (W : World) (ok : Nat → Prop) (x : S66) {A1 : Option Addr} {c1 : Nat} (l1 : x.f1.length ≤ c1) (g1 : Kd.F k44 W ok A1 x.f1.length x.f1) : Kd.FK k66 W ok x [.int .u64 x.f0, .slice A1 x.f1.length c1, .string x.f2] := fun W2 hW => k66_mk W2 x l1 (g1 W2 hW)
def rd_T66 (xs : List S66) (i : Int) : S66 := xs.getD i.toNat z66
theorem at_T66 {w : World} {A : Option Addr} {n : Nat} {xs : List S66} (h : Kd.C k66 w A n xs) (i : Int) (h0 : 0 ≤ i) (h1 : i < n) : ∃ ad A1 c1, A = some ad ∧ w.cell? (ad.add (i.toNat * 3)) = some (.int .u64 (rd_T66 xs i).f0) ∧ w.cell? ⟨(ad.add (i.toNat * 3)).block, (ad.add (i.toNat * 3)).off + 1, none⟩ = some (.slice A1 (rd_T66 xs i).f1.length c1) ∧ w.cell? ⟨(ad.add (i.toNat * 3)).block, (ad.add (i.toNat * 3)).off + 2, none⟩ = some (.string (rd_T66 xs i).f2) ∧ (rd_T66 xs i).f1.length ≤ c1 ∧ k44.C w A1 (rd_T66 xs i).f1.length (rd_T66 xs i).f1 := by
 obtain ⟨ad, c, e, _, hK, hc0⟩ := Kd.C_get h z66 i h0 h1
 have hc : ∀ j u, c[j]? = some u → w.cell? (ad.add (i.toNat * 3 + j)) = some u := hc0
 obtain ⟨A1, c1, rfl, l1, g1⟩ := k66_open hK
 exact ⟨ad, A1, c1, e, hc 0 _ rfl, by rw [← add_field _ _ 1 (by omega)]; exact hc 1 _ rfl, by rw [← add_field _ _ 2 (by omega)]; exact hc 2 _ rfl, l1, g1⟩
def seal_Put.f (a0 : ByteArray) : Option (ByteArray) := (seal_Sum.f a0).bind fun t111 => ((le_Put.f (IntKind.u64.wrap (t111)) 4).bind fun t112 => (if a0.size + t112.size ≤ 9223372036854775807 then (some (a0 ++ t112)) else (none)))
set_option maxHeartbeats 8000000 in
set_option maxRecDepth 100000 in
theorem seal_Put.calls (a0 : ByteArray) (r : ByteArray) (w : World) (h : seal_Put.f a0 = some r) :
  Calls Tryd.prog 46 #[.string a0] w fun e w' => e = .returned (.string r) ∧ Below w.heap.size w w' := by
 have HB := Ax.mk (Below.refl w.heap.size w)
 have H : ((seal_Sum.f a0).bind fun t111 => ((le_Put.f (IntKind.u64.wrap (t111)) 4).bind fun t112 => (if a0.size + t112.size ≤ 9223372036854775807 then (some (a0 ++ t112)) else (none)))) = some r := h
 clear h
 replace H := Option.bind_eq_some_iff.mp H
 obtain ⟨t111, A20, H⟩ := H
 replace H : ((le_Put.f (IntKind.u64.wrap (t111)) 4).bind fun t112 => (if a0.size + t112.size ≤ 9223372036854775807 then (some (a0 ++ t112)) else (none))) = some r := H
 have A2 := Ax.mk A20
 clear A20
 replace H := Option.bind_eq_some_iff.mp H
 obtain ⟨t112, A30, H⟩ := H
 replace H : (if a0.size + t112.size ≤ 9223372036854775807 then (some (a0 ++ t112)) else (none)) = some r := H
 have A3 := Ax.mk A30
 clear A30
 by_cases c4 : a0.size + t112.size ≤ 9223372036854775807
 ·rw [if_pos c4] at H
  have c4b0 := eq_true c4
  have c4b1 : decide (a0.size + t112.size ≤ 9223372036854775807) = true := decide_eq_true c4
  try have c4b2 : (9223372036854775807 < a0.size + t112.size) = False := eq_false (Nat.not_lt.2 c4)
  obtain rfl := Option.some.inj H
  go_enter Tryd.func46, Tryd.ntmps46
  go_wp2_with (first | ((with_reducible refine gate_callee (f := 66) rfl ?_); refine goesL_ (some 5) rfl rfl Tryd.func66 (by kernel_rfl) rfl #[.string a0] rfl (by (try simp only [List.map_toArray, List.map_cons, List.map_nil]); first | done | rfl | (simp only [List.length_drop, List.length_take]; rfl) | (rw [wrap_sum2 (by assumption)]; rfl)) ?_; (with_reducible refine (seal_Sum.calls a0 t111 _ A2.out).mono ?_); rintro e w5 ⟨rfl, hb⟩; refine ⟨_, rfl, ?_⟩; have n0_ := Ax.mk (bP bA hb); clear HB; have HB := n0_; clear n0_; (try clear hb); (try clear hb2); (try clear hk); (try clear hi)) | ((with_reducible refine gate_callee (f := 47) rfl ?_); refine goesL_ (some 7) rfl rfl Tryd.func47 (by kernel_rfl) rfl #[.int .u64 (IntKind.u64.wrap (t111)), .int .i64 4] rfl (by (try simp only [List.map_toArray, List.map_cons, List.map_nil]); first | done | rfl | (simp only [List.length_drop, List.length_take]; rfl) | (rw [wrap_sum2 (by assumption)]; rfl)) ?_; (with_reducible refine (le_Put.calls (IntKind.u64.wrap (t111)) 4 t112 _ A3.out).mono ?_); rintro e w6 ⟨rfl, hb⟩; refine ⟨_, rfl, ?_⟩; have n0_ := Ax.mk (bP bA hb); clear HB; have HB := n0_; clear n0_; (try clear hb); (try clear hb2); (try clear hk); (try clear hi)))
  go_ret
  exact ⟨by first | rfl | (simp [errW_none, errW_some] <;> rfl) | (simp [*, errW_none, errW_some] <;> rfl), bA⟩
 ·rw [if_neg c4] at H
  exact absurd H (by simp)
def r2_Put.l0 : Nat → Int → Int → List Int → Int → Option (ByteArray)
 | 0, _, _, _, _ => none
 | k + 1, x0, x1, x5, x6 => if x6 < x1 then (if x6 < 8 then (if x5.length < 140737488355328 then (r2_Put.l0 k (IntKind.u64.wrap (Int.tdiv x0 256)) x1 (x5 ++ [(Int.tmod x0 256) % 256]) (wrap64 (x6 + 1))) else (none)) else (some (strOfNums x5))) else (some (strOfNums x5))
def r2_Put.f (k : Nat) (a0 : Int) (a1 : Int) : Option (ByteArray) := r2_Put.l0 k a0 a1 ([] : List Int) 0
theorem r2_Put.mono_l : ∀ k, (∀ y0 y1 y2 y3, LeO (r2_Put.l0 k y0 y1 y2 y3) (r2_Put.l0 (k + 1) y0 y1 y2 y3))
 | 0 => fun _ _ _ _ r h => by simp [r2_Put.l0] at h
 | k + 1 => by
  have ih0 := r2_Put.mono_l k
  ·intro y0 y1 y2 y3
   unfold r2_Put.l0
   repeat' first
   | (with_reducible exact ih0 _ _ _ _)
   | (with_reducible exact LeO.refl _)
   | (with_reducible exact LeO.none _)
   | (with_reducible refine LeO.ite ?_ ?_)
   | (with_reducible refine LeO.bind ?_ (fun _ => ?_))
   | exact ih0 _ _ _ _
   | exact LeO.none _
   | refine LeO.ite ?_ ?_
   | refine LeO.bind ?_ (fun _ => ?_)
theorem r2_Put.mono : ∀ a0 a1 k, LeO (r2_Put.f k a0 a1) (r2_Put.f (k + 1) a0 a1) := by
 intro a0 a1 k
 have ih0 := r2_Put.mono_l k
 unfold r2_Put.f
 repeat' first
   | (with_reducible exact ih0 _ _ _ _)
   | (with_reducible exact LeO.refl _)
   | (with_reducible exact LeO.none _)
   | (with_reducible refine LeO.ite ?_ ?_)
   | (with_reducible refine LeO.bind ?_ (fun _ => ?_))
   | exact ih0 _ _ _ _
   | exact LeO.none _
   | refine LeO.ite ?_ ?_
   | refine LeO.bind ?_ (fun _ => ?_)
mutual
def r3_Sum.l0 : Nat → ByteArray → Int → Int → Option (Int)
 | 0, _, _, _ => none
 | k + 1, x0, x3, x4 => if x4 < (x0.size : Int) then (if 0 ≤ x4 then (r3_Sum.l1 k x0 x3 x4 ((bt x0 x4) % 4294967296) 0) else (none)) else (some (Go.bits .xor .u32 x3 4294967295))
def r3_Sum.l1 : Nat → ByteArray → Int → Int → Int → Int → Option (Int)
 | 0, _, _, _, _, _ => none
 | k + 1, x0, x3, x4, x5, x6 => if x6 < 8 then (if (Go.bits .and .u32 (Go.bits .xor .u32 x3 x5) 1) = 1 then (r3_Sum.l1 k x0 (Go.bits .xor .u32 ((Int.tdiv x3 2) % 4294967296) 3988292384) x4 ((Int.tdiv x5 2) % 4294967296) (wrap64 (x6 + 1))) else (r3_Sum.l1 k x0 ((Int.tdiv x3 2) % 4294967296) x4 ((Int.tdiv x5 2) % 4294967296) (wrap64 (x6 + 1)))) else (r3_Sum.l0 k x0 x3 (wrap64 (x4 + 1)))
end
def r3_Sum.f (k : Nat) (a0 : ByteArray) : Option (Int) := r3_Sum.l0 k a0 4294967295 0
theorem r3_Sum.mono_l : ∀ k, (∀ y0 y1 y2, LeO (r3_Sum.l0 k y0 y1 y2) (r3_Sum.l0 (k + 1) y0 y1 y2)) ∧ (∀ y0 y1 y2 y3 y4, LeO (r3_Sum.l1 k y0 y1 y2 y3 y4) (r3_Sum.l1 (k + 1) y0 y1 y2 y3 y4))
 | 0 => ⟨fun _ _ _ r h => by simp [r3_Sum.l0] at h, fun _ _ _ _ _ r h => by simp [r3_Sum.l1] at h⟩
 | k + 1 => by
  obtain ⟨ih0, ih1⟩ := r3_Sum.mono_l k
  refine ⟨?_, ?_⟩
  ·intro y0 y1 y2
   unfold r3_Sum.l0
   repeat' first
   | (with_reducible exact ih1 _ _ _ _ _)
   | (with_reducible exact LeO.refl _)
   | (with_reducible exact LeO.none _)
   | (with_reducible refine LeO.ite ?_ ?_)
   | (with_reducible refine LeO.bind ?_ (fun _ => ?_))
   | exact ih1 _ _ _ _ _
   | exact LeO.none _
   | refine LeO.ite ?_ ?_
   | refine LeO.bind ?_ (fun _ => ?_)
  ·intro y0 y1 y2 y3 y4
   unfold r3_Sum.l1
   repeat' first
   | (with_reducible exact ih0 _ _ _)
   | (with_reducible exact ih1 _ _ _ _ _)
   | (with_reducible exact LeO.refl _)
   | (with_reducible exact LeO.none _)
   | (with_reducible refine LeO.ite ?_ ?_)
   | (with_reducible refine LeO.bind ?_ (fun _ => ?_))
   | exact ih0 _ _ _
   | exact ih1 _ _ _ _ _
   | exact LeO.none _
   | refine LeO.ite ?_ ?_
   | refine LeO.bind ?_ (fun _ => ?_)
theorem r3_Sum.mono : ∀ a0 k, LeO (r3_Sum.f k a0) (r3_Sum.f (k + 1) a0) := by
 intro a0 k
 obtain ⟨ih0, ih1⟩ := r3_Sum.mono_l k
 unfold r3_Sum.f
 repeat' first
   | (with_reducible exact ih0 _ _ _)
   | (with_reducible exact ih1 _ _ _ _ _)
   | (with_reducible exact LeO.refl _)
   | (with_reducible exact LeO.none _)
   | (with_reducible refine LeO.ite ?_ ?_)
   | (with_reducible refine LeO.bind ?_ (fun _ => ?_))
   | exact ih0 _ _ _
   | exact ih1 _ _ _ _ _
   | exact LeO.none _
   | refine LeO.ite ?_ ?_
   | refine LeO.bind ?_ (fun _ => ?_)
def r3_Put.f (k : Nat) (a0 : ByteArray) : Option (ByteArray) := (r3_Sum.f k a0).bind fun t257 => ((r2_Put.f k (IntKind.u64.wrap (t257)) 4).bind fun t258 => (if a0.size + t258.size ≤ 9223372036854775807 then (some (a0 ++ t258)) else (none)))
theorem r3_Put.mono : ∀ a0 k, LeO (r3_Put.f k a0) (r3_Put.f (k + 1) a0) := by
 intro a0 k
 unfold r3_Put.f
 repeat' first
   | (with_reducible exact r2_Put.mono _ _ _)
   | (with_reducible exact r3_Sum.mono _ _)
   | (with_reducible exact LeO.refl _)
   | (with_reducible exact LeO.none _)
   | (with_reducible refine LeO.ite ?_ ?_)
   | (with_reducible refine LeO.bind ?_ (fun _ => ?_))
   | exact r2_Put.mono _ _ _
   | exact r3_Sum.mono _ _
   | exact LeO.none _
   | refine LeO.ite ?_ ?_
   | refine LeO.bind ?_ (fun _ => ?_)
def r1_more.f (a0 : ByteArray) (a1 : Int) : Option (Bool) := if a1 < (a0.size : Int) then (if 0 ≤ a1 then (if (bt a0 a1) ≥ 128 then (some (decide ((bt a0 a1) ≤ 191))) else (some false)) else (none)) else (some false)
mutual
def r1_Rune.j0 : Nat → ByteArray → Int → Bool → Option (Int × Int)
 | 0, _, _, _ => none
 | k + 1, x0, x4, x22 => if x22 = true then (if 1 < (x0.size : Int) then (some (wrap64 ((wrap64 ((wrap64 ((wrap64 (x4 - 192)) * 64)) + (wrap64 (bt x0 1)))) - 128), 2)) else (none)) else (if x4 ≥ 224 then (if x4 ≤ 239 then ((r1_more.f x0 1).bind fun t241 => (if t241 = true then ((r1_more.f x0 2).bind fun t242 => (r1_Rune.j1 k x0 x4 t242)) else (r1_Rune.j1 k x0 x4 false))) else (r1_Rune.j1 k x0 x4 false)) else (r1_Rune.j1 k x0 x4 false))
def r1_Rune.j1 : Nat → ByteArray → Int → Bool → Option (Int × Int)
 | 0, _, _, _ => none
 | k + 1, x0, x4, x44 => if x44 = true then (if 1 < (x0.size : Int) then (if 2 < (x0.size : Int) then (if (wrap64 ((wrap64 ((wrap64 ((wrap64 ((wrap64 (x4 - 224)) * 4096)) + (wrap64 ((wrap64 ((wrap64 (bt x0 1)) - 128)) * 64)))) + (wrap64 (bt x0 2)))) - 128)) ≥ 2048 then (if (wrap64 ((wrap64 ((wrap64 ((wrap64 ((wrap64 (x4 - 224)) * 4096)) + (wrap64 ((wrap64 ((wrap64 (bt x0 1)) - 128)) * 64)))) + (wrap64 (bt x0 2)))) - 128)) ≥ 55296 then (if ((wrap64 ((wrap64 ((wrap64 ((wrap64 ((wrap64 (x4 - 224)) * 4096)) + (wrap64 ((wrap64 ((wrap64 (bt x0 1)) - 128)) * 64)))) + (wrap64 (bt x0 2)))) - 128)) ≤ 57343) then (r1_Rune.j2 k x0 x4) else (some (wrap64 ((wrap64 ((wrap64 ((wrap64 ((wrap64 (x4 - 224)) * 4096)) + (wrap64 ((wrap64 ((wrap64 (bt x0 1)) - 128)) * 64)))) + (wrap64 (bt x0 2)))) - 128), 3))) else (some (wrap64 ((wrap64 ((wrap64 ((wrap64 ((wrap64 (x4 - 224)) * 4096)) + (wrap64 ((wrap64 ((wrap64 (bt x0 1)) - 128)) * 64)))) + (wrap64 (bt x0 2)))) - 128), 3))) else (r1_Rune.j2 k x0 x4)) else (none)) else (none)) else (r1_Rune.j2 k x0 x4)
def r1_Rune.j2 : Nat → ByteArray → Int → Option (Int × Int)
 | 0, _, _ => none
 | k + 1, x0, x4 => if x4 ≥ 240 then (if x4 ≤ 244 then ((r1_more.f x0 1).bind fun t243 => (if t243 = true then ((r1_more.f x0 2).bind fun t244 => (if t244 = true then ((r1_more.f x0 3).bind fun t245 => (r1_Rune.j3 k x0 x4 t245)) else (r1_Rune.j3 k x0 x4 false))) else (r1_Rune.j3 k x0 x4 false))) else (r1_Rune.j3 k x0 x4 false)) else (r1_Rune.j3 k x0 x4 false)
def r1_Rune.j3 : Nat → ByteArray → Int → Bool → Option (Int × Int)
 | 0, _, _, _ => none
 | k + 1, x0, x4, x88 => if x88 = true then (if 1 < (x0.size : Int) then (if 2 < (x0.size : Int) then (if 3 < (x0.size : Int) then (if (wrap64 ((wrap64 ((wrap64 ((wrap64 ((wrap64 ((wrap64 (x4 - 240)) * 262144)) + (wrap64 ((wrap64 ((wrap64 (bt x0 1)) - 128)) * 4096)))) + (wrap64 ((wrap64 ((wrap64 (bt x0 2)) - 128)) * 64)))) + (wrap64 (bt x0 3)))) - 128)) ≥ 65536 then (if (wrap64 ((wrap64 ((wrap64 ((wrap64 ((wrap64 ((wrap64 (x4 - 240)) * 262144)) + (wrap64 ((wrap64 ((wrap64 (bt x0 1)) - 128)) * 4096)))) + (wrap64 ((wrap64 ((wrap64 (bt x0 2)) - 128)) * 64)))) + (wrap64 (bt x0 3)))) - 128)) ≤ 1114111 then (some (wrap64 ((wrap64 ((wrap64 ((wrap64 ((wrap64 ((wrap64 (x4 - 240)) * 262144)) + (wrap64 ((wrap64 ((wrap64 (bt x0 1)) - 128)) * 4096)))) + (wrap64 ((wrap64 ((wrap64 (bt x0 2)) - 128)) * 64)))) + (wrap64 (bt x0 3)))) - 128), 4)) else (some ((-1), 1))) else (some ((-1), 1))) else (none)) else (none)) else (none)) else (some ((-1), 1))
end
def r1_Rune.f (k : Nat) (a0 : ByteArray) : Option (Int × Int) := if 0 < (a0.size : Int) then (if (wrap64 (bt a0 0)) < 128 then (some (wrap64 (bt a0 0), 1)) else (if (wrap64 (bt a0 0)) ≥ 194 then (if (wrap64 (bt a0 0)) ≤ 223 then ((r1_more.f a0 1).bind fun t240 => (r1_Rune.j0 k a0 (wrap64 (bt a0 0)) t240)) else (r1_Rune.j0 k a0 (wrap64 (bt a0 0)) false)) else (r1_Rune.j0 k a0 (wrap64 (bt a0 0)) false))) else (none)
theorem r1_Rune.mono_l : ∀ k, (∀ y0 y1 y2, LeO (r1_Rune.j0 k y0 y1 y2) (r1_Rune.j0 (k + 1) y0 y1 y2)) ∧ (∀ y0 y1 y2, LeO (r1_Rune.j1 k y0 y1 y2) (r1_Rune.j1 (k + 1) y0 y1 y2)) ∧ (∀ y0 y1, LeO (r1_Rune.j2 k y0 y1) (r1_Rune.j2 (k + 1) y0 y1)) ∧ (∀ y0 y1 y2, LeO (r1_Rune.j3 k y0 y1 y2) (r1_Rune.j3 (k + 1) y0 y1 y2))
 | 0 => ⟨fun _ _ _ r h => by simp [r1_Rune.j0] at h, fun _ _ _ r h => by simp [r1_Rune.j1] at h, fun _ _ r h => by simp [r1_Rune.j2] at h, fun _ _ _ r h => by simp [r1_Rune.j3] at h⟩
 | k + 1 => by
  obtain ⟨ih0, ih1, ih2, ih3⟩ := r1_Rune.mono_l k
  refine ⟨?_, ?_, ?_, ?_⟩
  ·intro y0 y1 y2
   unfold r1_Rune.j0
   repeat' first
   | (with_reducible exact ih1 _ _ _)
   | (with_reducible exact LeO.refl _)
   | (with_reducible exact LeO.none _)
   | (with_reducible refine LeO.ite ?_ ?_)
   | (with_reducible refine LeO.bind ?_ (fun _ => ?_))
   | exact ih1 _ _ _
   | exact LeO.none _
   | refine LeO.ite ?_ ?_
   | refine LeO.bind ?_ (fun _ => ?_)
  ·intro y0 y1 y2
   unfold r1_Rune.j1
   repeat' first
   | (with_reducible exact ih2 _ _)
   | (with_reducible exact LeO.refl _)
   | (with_reducible exact LeO.none _)
   | (with_reducible refine LeO.ite ?_ ?_)
   | (with_reducible refine LeO.bind ?_ (fun _ => ?_))
   | exact ih2 _ _
   | exact LeO.none _
   | refine LeO.ite ?_ ?_
   | refine LeO.bind ?_ (fun _ => ?_)
  ·intro y0 y1
   unfold r1_Rune.j2
   repeat' first
   | (with_reducible exact ih3 _ _ _)
   | (with_reducible exact LeO.refl _)
   | (with_reducible exact LeO.none _)
   | (with_reducible refine LeO.ite ?_ ?_)
   | (with_reducible refine LeO.bind ?_ (fun _ => ?_))
   | exact ih3 _ _ _
   | exact LeO.none _
   | refine LeO.ite ?_ ?_
   | refine LeO.bind ?_ (fun _ => ?_)
  ·intro y0 y1 y2
   unfold r1_Rune.j3
   repeat' first
   | (with_reducible exact LeO.refl _)
   | (with_reducible exact LeO.none _)
   | (with_reducible refine LeO.ite ?_ ?_)
   | (with_reducible refine LeO.bind ?_ (fun _ => ?_))
   | exact LeO.none _
   | refine LeO.ite ?_ ?_
   | refine LeO.bind ?_ (fun _ => ?_)
theorem r1_Rune.mono : ∀ a0 k, LeO (r1_Rune.f k a0) (r1_Rune.f (k + 1) a0) := by
 intro a0 k
 obtain ⟨ih0, ih1, ih2, ih3⟩ := r1_Rune.mono_l k
 unfold r1_Rune.f
 repeat' first
   | (with_reducible exact ih0 _ _ _)
   | (with_reducible exact ih1 _ _ _)
   | (with_reducible exact ih2 _ _)
   | (with_reducible exact ih3 _ _ _)
   | (with_reducible exact LeO.refl _)
   | (with_reducible exact LeO.none _)
   | (with_reducible refine LeO.ite ?_ ?_)
   | (with_reducible refine LeO.bind ?_ (fun _ => ?_))
   | exact ih0 _ _ _
   | exact ih1 _ _ _
   | exact ih2 _ _
   | exact ih3 _ _ _
   | exact LeO.none _
   | refine LeO.ite ?_ ?_
   | refine LeO.bind ?_ (fun _ => ?_)
def r1_Valid.l0 : Nat → ByteArray → Option (Bool)
 | 0, _ => none
 | k + 1, x0 => if x0.toList = ([] : List UInt8) then (some true) else ((r1_Rune.f k x0).bind fun bt246 => (if bt246.1 < 0 then (some false) else (if 0 ≤ bt246.2 then (if bt246.2 ≤ (x0.size : Int) then (r1_Valid.l0 k (x0.extract (bt246.2 : Int).toNat x0.size)) else (none)) else (none))))
def r1_Valid.f (k : Nat) (a0 : ByteArray) : Option (Bool) := r1_Valid.l0 k a0
theorem r1_Valid.mono_l : ∀ k, (∀ y0, LeO (r1_Valid.l0 k y0) (r1_Valid.l0 (k + 1) y0))
 | 0 => fun _ r h => by simp [r1_Valid.l0] at h
 | k + 1 => by
  have ih0 := r1_Valid.mono_l k
  ·intro y0
   unfold r1_Valid.l0
   repeat' first
   | (with_reducible exact ih0 _)
   | (with_reducible exact r1_Rune.mono _ _)
   | (with_reducible exact LeO.refl _)
   | (with_reducible exact LeO.none _)
   | (with_reducible refine LeO.ite ?_ ?_)
   | (with_reducible refine LeO.bind ?_ (fun _ => ?_))
   | exact ih0 _
   | exact r1_Rune.mono _ _
   | exact LeO.none _
   | refine LeO.ite ?_ ?_
   | refine LeO.bind ?_ (fun _ => ?_)
theorem r1_Valid.mono : ∀ a0 k, LeO (r1_Valid.f k a0) (r1_Valid.f (k + 1) a0) := by
 intro a0 k
 have ih0 := r1_Valid.mono_l k
 unfold r1_Valid.f
 repeat' first
   | (with_reducible exact ih0 _)
   | (with_reducible exact r1_Rune.mono _ _)
   | (with_reducible exact LeO.refl _)
   | (with_reducible exact LeO.none _)
   | (with_reducible refine LeO.ite ?_ ?_)
   | (with_reducible refine LeO.bind ?_ (fun _ => ?_))
   | exact ih0 _
   | exact r1_Rune.mono _ _
   | exact LeO.none _
   | refine LeO.ite ?_ ?_
   | refine LeO.bind ?_ (fun _ => ?_)
def r1_Count.l0 : Nat → ByteArray → Int → Option (Int)
 | 0, _, _ => none
 | k + 1, x0, x3 => if x0.toList = ([] : List UInt8) then (some x3) else ((r1_Rune.f k x0).bind fun bt248 => (if 0 ≤ bt248.2 then (if bt248.2 ≤ (x0.size : Int) then (r1_Count.l0 k (x0.extract (bt248.2 : Int).toNat x0.size) (wrap64 (x3 + 1))) else (none)) else (none)))
def r1_Count.f (k : Nat) (a0 : ByteArray) : Option (Int) := r1_Count.l0 k a0 0
theorem r1_Count.mono_l : ∀ k, (∀ y0 y1, LeO (r1_Count.l0 k y0 y1) (r1_Count.l0 (k + 1) y0 y1))
 | 0 => fun _ _ r h => by simp [r1_Count.l0] at h
 | k + 1 => by
  have ih0 := r1_Count.mono_l k
  ·intro y0 y1
   unfold r1_Count.l0
   repeat' first
   | (with_reducible exact ih0 _ _)
   | (with_reducible exact r1_Rune.mono _ _)
   | (with_reducible exact LeO.refl _)
   | (with_reducible exact LeO.none _)
   | (with_reducible refine LeO.ite ?_ ?_)
   | (with_reducible refine LeO.bind ?_ (fun _ => ?_))
   | exact ih0 _ _
   | exact r1_Rune.mono _ _
   | exact LeO.none _
   | refine LeO.ite ?_ ?_
   | refine LeO.bind ?_ (fun _ => ?_)
theorem r1_Count.mono : ∀ a0 k, LeO (r1_Count.f k a0) (r1_Count.f (k + 1) a0) := by
 intro a0 k
 have ih0 := r1_Count.mono_l k
 unfold r1_Count.f
 repeat' first
   | (with_reducible exact ih0 _ _)
   | (with_reducible exact r1_Rune.mono _ _)
   | (with_reducible exact LeO.refl _)
   | (with_reducible exact LeO.none _)
   | (with_reducible refine LeO.ite ?_ ?_)
   | (with_reducible refine LeO.bind ?_ (fun _ => ?_))
   | exact ih0 _ _
   | exact r1_Rune.mono _ _
   | exact LeO.none _
   | refine LeO.ite ?_ ?_
   | refine LeO.bind ?_ (fun _ => ?_)
mutual
def r1_Right.j0 : Nat → ByteArray → Bool → Option (Bool)
 | 0, _, _ => none
 | k + 1, x0, x30 => if x30 = true then (some false) else (r1_Right.l0 k x0 0)
def r1_Right.l0 : Nat → ByteArray → Int → Option (Bool)
 | 0, _, _ => none
 | k + 1, x0, x4 => if x4 < (x0.size : Int) then (if 0 ≤ x4 then (if (bt x0 x4) < 32 then (some false) else (if (bt x0 x4) = 127 then (some false) else (r1_Right.l0 k x0 (wrap64 (x4 + 1))))) else (none)) else (some true)
end
def r1_Right.f (k : Nat) (a0 : ByteArray) : Option (Bool) := (r1_Valid.f k a0).bind fun t250 => (if t250 = true then (if a0.toList = ([] : List UInt8) then (r1_Right.j0 k a0 true) else ((r1_Count.f k a0).bind fun t251 => (if t251 > 24 then (r1_Right.j0 k a0 true) else (if 0 < (a0.size : Int) then (if (bt a0 0) = 32 then (r1_Right.j0 k a0 true) else (if 0 ≤ (wrap64 ((a0.size : Int) - 1)) then (if (wrap64 ((a0.size : Int) - 1)) < (a0.size : Int) then (r1_Right.j0 k a0 ((bt a0 (wrap64 ((a0.size : Int) - 1))) == 32)) else (none)) else (none))) else (none))))) else (r1_Right.j0 k a0 true))
theorem r1_Right.mono_l : ∀ k, (∀ y0 y1, LeO (r1_Right.j0 k y0 y1) (r1_Right.j0 (k + 1) y0 y1)) ∧ (∀ y0 y1, LeO (r1_Right.l0 k y0 y1) (r1_Right.l0 (k + 1) y0 y1))
 | 0 => ⟨fun _ _ r h => by simp [r1_Right.j0] at h, fun _ _ r h => by simp [r1_Right.l0] at h⟩
 | k + 1 => by
  obtain ⟨ih0, ih1⟩ := r1_Right.mono_l k
  refine ⟨?_, ?_⟩
  ·intro y0 y1
   unfold r1_Right.j0
   repeat' first
   | (with_reducible exact ih1 _ _)
   | (with_reducible exact LeO.refl _)
   | (with_reducible exact LeO.none _)
   | (with_reducible refine LeO.ite ?_ ?_)
   | (with_reducible refine LeO.bind ?_ (fun _ => ?_))
   | exact ih1 _ _
   | exact LeO.none _
   | refine LeO.ite ?_ ?_
   | refine LeO.bind ?_ (fun _ => ?_)
  ·intro y0 y1
   unfold r1_Right.l0
   repeat' first
   | (with_reducible exact ih1 _ _)
   | (with_reducible exact LeO.refl _)
   | (with_reducible exact LeO.none _)
   | (with_reducible refine LeO.ite ?_ ?_)
   | (with_reducible refine LeO.bind ?_ (fun _ => ?_))
   | exact ih1 _ _
   | exact LeO.none _
   | refine LeO.ite ?_ ?_
   | refine LeO.bind ?_ (fun _ => ?_)
theorem r1_Right.mono : ∀ a0 k, LeO (r1_Right.f k a0) (r1_Right.f (k + 1) a0) := by
 intro a0 k
 obtain ⟨ih0, ih1⟩ := r1_Right.mono_l k
 unfold r1_Right.f
 repeat' first
   | (with_reducible exact ih0 _ _)
   | (with_reducible exact ih1 _ _)
   | (with_reducible exact r1_Count.mono _ _)
   | (with_reducible exact r1_Valid.mono _ _)
   | (with_reducible exact LeO.refl _)
   | (with_reducible exact LeO.none _)
   | (with_reducible refine LeO.ite ?_ ?_)
   | (with_reducible refine LeO.bind ?_ (fun _ => ?_))
   | exact ih0 _ _
   | exact ih1 _ _
   | exact r1_Count.mono _ _
   | exact r1_Valid.mono _ _
   | exact LeO.none _
   | refine LeO.ite ?_ ?_
   | refine LeO.bind ?_ (fun _ => ?_)
def step_number.f (a0 : Int) : Option (Bool) := if a0 ≥ 0 then (some (decide (a0 ≤ 2147483647))) else (some false)
set_option maxHeartbeats 8000000 in
set_option maxRecDepth 100000 in
theorem step_number.calls (a0 : Int) (r : Bool) (w : World) (h : step_number.f a0 = some r) :
  Calls Tryd.prog 51 #[.int .i64 a0] w fun e w' => e = .returned (.bool r) ∧ Drawn0 w w' := by
 have H : (if a0 ≥ 0 then (some (decide (a0 ≤ 2147483647))) else (some false)) = some r := h
 clear h
 by_cases c2 : a0 ≥ 0
 ·rw [if_pos c2] at H
  have c2b0 : decide (0 ≤ a0) = true := decide_eq_true c2
  clear c2
  obtain rfl := Option.some.inj H
  go_enter Tryd.func51, Tryd.ntmps51
  go_wp2
  go_ret
  exact ⟨by first | rfl | (simp; done) | (simp [*]; done), by repeat (first | exact Drawn0.refl _ | apply Drawn0.step)⟩
 ·rw [if_neg c2] at H
  have c2b0 : decide (0 ≤ a0) = false := decide_eq_false c2
  clear c2
  obtain rfl := Option.some.inj H
  go_enter Tryd.func51, Tryd.ntmps51
  go_wp2
  go_ret
  exact ⟨by first | rfl | (simp; done) | (simp [*]; done), by repeat (first | exact Drawn0.refl _ | apply Drawn0.step)⟩
def step_Right.j0 : Nat → Bool → Int → Int → Int → Int → ByteArray → Option (Bool)
 | 0, _, _, _, _, _, _ => none
 | k + 1, x16, x108000, x108001, x108002, x108003, x108004 => if x16 = true then (some false) else (if x108000 ≥ 1 then (if x108000 ≤ 8 then ((step_number.f x108001).bind fun t109 => (if t109 = true then ((step_number.f x108002).bind fun t110 => (some t110)) else (some false))) else (some false)) else (some false))
def step_Right.f (k : Nat) (a0_0 : Int) (a0_1 : Int) (a0_2 : Int) (a0_3 : Int) (a0_4 : ByteArray) : Option (Bool) := if a0_4.toList = ([] : List UInt8) then (step_Right.j0 k false a0_0 a0_1 a0_2 a0_3 a0_4) else (if a0_0 = 1 then ((label_Right.f a0_4).bind fun t108 => (step_Right.j0 k (!t108) a0_0 a0_1 a0_2 a0_3 a0_4)) else (step_Right.j0 k true a0_0 a0_1 a0_2 a0_3 a0_4))
theorem step_Right.mono_l : ∀ k, (∀ y0 y1 y2 y3 y4 y5, LeO (step_Right.j0 k y0 y1 y2 y3 y4 y5) (step_Right.j0 (k + 1) y0 y1 y2 y3 y4 y5))
 | 0 => fun _ _ _ _ _ _ r h => by simp [step_Right.j0] at h
 | k + 1 => by
  have ih0 := step_Right.mono_l k
  ·intro y0 y1 y2 y3 y4 y5
   unfold step_Right.j0
   repeat' first
   | (with_reducible exact LeO.refl _)
   | (with_reducible exact LeO.none _)
   | (with_reducible refine LeO.ite ?_ ?_)
   | (with_reducible refine LeO.bind ?_ (fun _ => ?_))
   | exact LeO.none _
   | refine LeO.ite ?_ ?_
   | refine LeO.bind ?_ (fun _ => ?_)
theorem step_Right.mono : ∀ a0 a1 a2 a3 a4 k, LeO (step_Right.f k a0 a1 a2 a3 a4) (step_Right.f (k + 1) a0 a1 a2 a3 a4) := by
 intro a0 a1 a2 a3 a4 k
 have ih0 := step_Right.mono_l k
 unfold step_Right.f
 repeat' first
   | (with_reducible exact ih0 _ _ _ _ _ _)
   | (with_reducible exact LeO.refl _)
   | (with_reducible exact LeO.none _)
   | (with_reducible refine LeO.ite ?_ ?_)
   | (with_reducible refine LeO.bind ?_ (fun _ => ?_))
   | exact ih0 _ _ _ _ _ _
   | exact LeO.none _
   | refine LeO.ite ?_ ?_
   | refine LeO.bind ?_ (fun _ => ?_)
set_option maxHeartbeats 8000000 in
set_option maxRecDepth 100000 in
theorem step_Right.calls (k : Nat) (a0_0 : Int) (a0_1 : Int) (a0_2 : Int) (a0_3 : Int) (a0_4 : ByteArray) (r : Bool) (w : World) (h : step_Right.f k a0_0 a0_1 a0_2 a0_3 a0_4 = some r) (HT : Tabs w) :
  Calls Tryd.prog 21 #[.agg #[.int .i64 a0_0, .int .i64 a0_1, .int .i64 a0_2, .int .u64 a0_3, .string a0_4]] w fun e w' => e = .returned (.bool r) ∧ Below w.heap.size w w' := by
 have hu24 := Tryd.underlying24
 have HB := Ax.mk (Below.refl w.heap.size w)
 have H : (if a0_4.toList = ([] : List UInt8) then (step_Right.j0 k false a0_0 a0_1 a0_2 a0_3 a0_4) else (if a0_0 = 1 then ((label_Right.f a0_4).bind fun t108 => (step_Right.j0 k (!t108) a0_0 a0_1 a0_2 a0_3 a0_4)) else (step_Right.j0 k true a0_0 a0_1 a0_2 a0_3 a0_4))) = some r := h
 clear h
 have HC2 := Ax.mk H
 clear H
 go_enter Tryd.func21, Tryd.ntmps21
 go_upto_region 1 with (first | ((with_reducible refine gate_dst (N := 1) rfl ?_); refine box_event ?hg (N := 1) ?hd (cs := #[.int .i64 a0_0, .int .i64 a0_1, .int .i64 a0_2, .int .u64 a0_3, .string a0_4]) (t := 24) ?hr ?_; (case hd => rfl); (case hg => rfl); (case hr => first | (go_simp; done) | (go_simp; rfl)); intro gb107 hg w3 hbox hb; have n0_ := Ax.mk (bP bA hb); have n1_ := Ax.mk (hbox); have n2_ := Ax.mk ((ge_new hg : w.heap.size ≤ gb107)); have n3_ := n2_; clear HB; have HB := n0_; have BK107 := n1_; have GW107 := n2_; have GE107 := n3_; clear n0_ n1_ n2_ n3_; clear hb hbox hg))
 (try simp only [Act.put, sI, sZ, sS])
 go_cut [16] (fun v16 wc => ∃ (kq : Nat) (x16_1 : Bool), v16 = .bool x16_1 ∧ Ax (step_Right.j0 kq x16_1 a0_0 a0_1 a0_2 a0_3 a0_4 = some r) ∧ Ax (kq ≤ k) ∧ Ax (wc.heap[gb107]? = some (.cells #[.int .i64 a0_0, .int .i64 a0_1, .int .i64 a0_2, .int .u64 a0_3, .string a0_4] 24 (0, 0))) ∧ Ax (Below w.heap.size w wc))
 case first =>
  have H := HC2.out
  clear HC2
  by_cases c4 : a0_4.toList = ([] : List UInt8)
  ·rw [if_pos c4] at H
   have c4b0 : (a0_4.toList == ([] : List UInt8)) = true := beq_iff_eq.mpr c4
   have c4b1 : (a0_4.toList != ([] : List UInt8)) = false := bne_eq_false_iff_eq.mpr c4
   clear c4
   (first | rw [c4b0] | (simp only [i64_w, i32_w]; rw [c4b0]) | skip)
   have H' := Ax.mk H
   clear H
   have hcz5_0 : w3.cell? ⟨gb107, 0, none⟩ = some (.int .i64 a0_0) := (bC BK107.out 0).trans rfl
   have hcz5_1 : w3.cell? ⟨gb107, 1, none⟩ = some (.int .i64 a0_1) := (bC BK107.out 1).trans rfl
   have hcz5_2 : w3.cell? ⟨gb107, 2, none⟩ = some (.int .i64 a0_2) := (bC BK107.out 2).trans rfl
   have hcz5_3 : w3.cell? ⟨gb107, 3, none⟩ = some (.int .u64 a0_3) := (bC BK107.out 3).trans rfl
   have hcz5_4 : w3.cell? ⟨gb107, 4, none⟩ = some (.string a0_4) := (bC BK107.out 4).trans rfl
   have hfz5_0 := bF BK107.out 0
   have hfz5_1 := bF BK107.out 1
   have hfz5_2 := bF BK107.out 2
   have hfz5_3 := bF BK107.out 3
   have hfz5_4 := bF BK107.out 4
   go_wp2
   go_meet
   case rel => exact ⟨_, (false), (by first | rfl | (simp; done) | (simp [*]; done)), H', ⟨by first | omega | exact Nat.le_refl _⟩, ⟨by refine bT ?_; exact BK107.out⟩, ⟨bA⟩⟩
  ·rw [if_neg c4] at H
   have c4b0 : (a0_4.toList == ([] : List UInt8)) = false := beq_eq_false_iff_ne.mpr c4
   have c4b1 : (a0_4.toList != ([] : List UInt8)) = true := bne_iff_ne.mpr c4
   (first | rw [c4b0] | (simp only [i64_w, i32_w]; rw [c4b0]) | skip)
   by_cases c6 : a0_0 = 1
   ·rw [if_pos c6] at H
    have c6b0 : (a0_0 == 1) = true := beq_iff_eq.mpr c6
    have c6b1 : (a0_0 != 1) = false := bne_eq_false_iff_eq.mpr c6
    clear c6
    replace H := Option.bind_eq_some_iff.mp H
    obtain ⟨t108, A70, H⟩ := H
    replace H : (step_Right.j0 k (!t108) a0_0 a0_1 a0_2 a0_3 a0_4) = some r := H
    have A7 := Ax.mk A70
    clear A70
    have H' := Ax.mk H
    clear H
    have hcz8_0 : w3.cell? ⟨gb107, 0, none⟩ = some (.int .i64 a0_0) := (bC BK107.out 0).trans rfl
    have hcz8_1 : w3.cell? ⟨gb107, 1, none⟩ = some (.int .i64 a0_1) := (bC BK107.out 1).trans rfl
    have hcz8_2 : w3.cell? ⟨gb107, 2, none⟩ = some (.int .i64 a0_2) := (bC BK107.out 2).trans rfl
    have hcz8_3 : w3.cell? ⟨gb107, 3, none⟩ = some (.int .u64 a0_3) := (bC BK107.out 3).trans rfl
    have hcz8_4 : w3.cell? ⟨gb107, 4, none⟩ = some (.string a0_4) := (bC BK107.out 4).trans rfl
    have hfz8_0 := bF BK107.out 0
    have hfz8_1 := bF BK107.out 1
    have hfz8_2 := bF BK107.out 2
    have hfz8_3 := bF BK107.out 3
    have hfz8_4 := bF BK107.out 4
    go_wp2_with (first | (go_at_call 50; (with_reducible refine (label_Right.calls a0_4 t108 _ A7.out (HT.below bA)).mono ?_); rintro e w9 ⟨rfl, hb⟩; have n0_ := Ax.mk (bB (bT BK107.out) hb); have n1_ := Ax.mk (bP bA hb); clear BK107; clear HB; have BK107 := n0_; have HB := n1_; clear n0_ n1_; (try clear hb); (try clear hb2); (try clear hk); (try clear hi)))
    go_meet
    case rel => exact ⟨_, (!t108), (by first | rfl | (simp; done) | (simp [*]; done)), H', ⟨by first | omega | exact Nat.le_refl _⟩, ⟨by refine bT ?_; exact BK107.out⟩, ⟨bA⟩⟩
   ·rw [if_neg c6] at H
    have c6b0 : (a0_0 == 1) = false := beq_eq_false_iff_ne.mpr c6
    have c6b1 : (a0_0 != 1) = true := bne_iff_ne.mpr c6
    have H' := Ax.mk H
    clear H
    have hcz10_0 : w3.cell? ⟨gb107, 0, none⟩ = some (.int .i64 a0_0) := (bC BK107.out 0).trans rfl
    have hcz10_1 : w3.cell? ⟨gb107, 1, none⟩ = some (.int .i64 a0_1) := (bC BK107.out 1).trans rfl
    have hcz10_2 : w3.cell? ⟨gb107, 2, none⟩ = some (.int .i64 a0_2) := (bC BK107.out 2).trans rfl
    have hcz10_3 : w3.cell? ⟨gb107, 3, none⟩ = some (.int .u64 a0_3) := (bC BK107.out 3).trans rfl
    have hcz10_4 : w3.cell? ⟨gb107, 4, none⟩ = some (.string a0_4) := (bC BK107.out 4).trans rfl
    have hfz10_0 := bF BK107.out 0
    have hfz10_1 := bF BK107.out 1
    have hfz10_2 := bF BK107.out 2
    have hfz10_3 := bF BK107.out 3
    have hfz10_4 := bF BK107.out 4
    go_wp2
    go_meet
    case rel => exact ⟨_, (true), (by first | rfl | (simp; done) | (simp [*]; done)), H', ⟨by first | omega | exact Nat.le_refl _⟩, ⟨by refine bT ?_; exact BK107.out⟩, ⟨bA⟩⟩
 case rest =>
  clear HC2
  try clear c2
  try clear p2
  try clear c4
  try clear c4b0
  try clear c4b1
  try clear c6
  try clear c6b0
  try clear c6b1
  try clear hcz10_0
  try clear hcz10_1
  try clear hcz10_2
  try clear hcz10_3
  try clear hcz10_4
  try clear hcz5_0
  try clear hcz5_1
  try clear hcz5_2
  try clear hcz5_3
  try clear hcz5_4
  try clear hcz8_0
  try clear hcz8_1
  try clear hcz8_2
  try clear hcz8_3
  try clear hcz8_4
  try clear hfz10_0
  try clear hfz10_1
  try clear hfz10_2
  try clear hfz10_3
  try clear hfz10_4
  try clear hfz5_0
  try clear hfz5_1
  try clear hfz5_2
  try clear hfz5_3
  try clear hfz5_4
  try clear hfz8_0
  try clear hfz8_1
  try clear hfz8_2
  try clear hfz8_3
  try clear hfz8_4
  obtain ⟨kq, x16_1, rfl, HA, HJ1, BK107, HB⟩ := hcut
  cases kq with
  | zero => exact absurd HA.out (by simp [step_Right.j0])
  | succ kj1 =>
   have H := HA.out
   clear HA
   simp only [step_Right.j0] at H
   by_cases c11 : x16_1 = true
   ·subst c11
    have H1 : (some false) = some r := by rw [if_pos rfl] at H; exact H
    clear H
    have H := H1
    clear H1
    obtain rfl := Option.some.inj H
    go_wp2
    go_ret
    exact ⟨by first | rfl | (simp [errW_none, errW_some] <;> rfl) | (simp [*, errW_none, errW_some] <;> rfl), bA⟩
   ·replace c11 := Bool.eq_false_iff.mpr c11
    subst c11
    have H1 : (if a0_0 ≥ 1 then (if a0_0 ≤ 8 then ((step_number.f a0_1).bind fun t109 => (if t109 = true then ((step_number.f a0_2).bind fun t110 => (some t110)) else (some false))) else (some false)) else (some false)) = some r := by rw [if_neg (show ¬ (false = true) by decide)] at H; exact H
    clear H
    have H := H1
    clear H1
    by_cases c12 : a0_0 ≥ 1
    ·rw [if_pos c12] at H
     have c12b0 : decide (1 ≤ a0_0) = true := decide_eq_true c12
     clear c12
     by_cases c13 : a0_0 ≤ 8
     ·rw [if_pos c13] at H
      have c13b0 : decide (a0_0 ≤ 8) = true := decide_eq_true c13
      clear c13
      replace H := Option.bind_eq_some_iff.mp H
      obtain ⟨t109, A140, H⟩ := H
      replace H : (if t109 = true then ((step_number.f a0_2).bind fun t110 => (some t110)) else (some false)) = some r := H
      have A14 := Ax.mk A140
      clear A140
      by_cases c15 : t109 = true
      ·subst c15
       have H1 : ((step_number.f a0_2).bind fun t110 => (some t110)) = some r := by rw [if_pos rfl] at H; exact H
       clear H
       have H := H1
       clear H1
       replace H := Option.bind_eq_some_iff.mp H
       obtain ⟨t110, A160, H⟩ := H
       replace H : (some t110) = some r := H
       have A16 := Ax.mk A160
       clear A160
       obtain rfl := Option.some.inj H
       have hcz17_0 : wc.cell? ⟨gb107, 0, none⟩ = some (.int .i64 a0_0) := (bC BK107.out 0).trans rfl
       have hcz17_1 : wc.cell? ⟨gb107, 1, none⟩ = some (.int .i64 a0_1) := (bC BK107.out 1).trans rfl
       have hcz17_2 : wc.cell? ⟨gb107, 2, none⟩ = some (.int .i64 a0_2) := (bC BK107.out 2).trans rfl
       have hcz17_3 : wc.cell? ⟨gb107, 3, none⟩ = some (.int .u64 a0_3) := (bC BK107.out 3).trans rfl
       have hcz17_4 : wc.cell? ⟨gb107, 4, none⟩ = some (.string a0_4) := (bC BK107.out 4).trans rfl
       have hfz17_0 := bF BK107.out 0
       have hfz17_1 := bF BK107.out 1
       have hfz17_2 := bF BK107.out 2
       have hfz17_3 := bF BK107.out 3
       have hfz17_4 := bF BK107.out 4
       go_wp2_with (first | (go_at_call 51; (with_reducible refine (step_number.calls a0_1 true _ A14.out).mono ?_); rintro e w' ⟨rfl, ⟨nd, rfl⟩⟩) | (go_at_call 51; (with_reducible refine (step_number.calls a0_2 t110 _ A16.out).mono ?_); rintro e w' ⟨rfl, ⟨nd, rfl⟩⟩))
       go_ret
       exact ⟨by first | rfl | (simp [errW_none, errW_some] <;> rfl) | (simp [*, errW_none, errW_some] <;> rfl), bA⟩
      ·replace c15 := Bool.eq_false_iff.mpr c15
       subst c15
       have H1 : (some false) = some r := by rw [if_neg (show ¬ (false = true) by decide)] at H; exact H
       clear H
       have H := H1
       clear H1
       obtain rfl := Option.some.inj H
       have hcz18_0 : wc.cell? ⟨gb107, 0, none⟩ = some (.int .i64 a0_0) := (bC BK107.out 0).trans rfl
       have hcz18_1 : wc.cell? ⟨gb107, 1, none⟩ = some (.int .i64 a0_1) := (bC BK107.out 1).trans rfl
       have hcz18_2 : wc.cell? ⟨gb107, 2, none⟩ = some (.int .i64 a0_2) := (bC BK107.out 2).trans rfl
       have hcz18_3 : wc.cell? ⟨gb107, 3, none⟩ = some (.int .u64 a0_3) := (bC BK107.out 3).trans rfl
       have hcz18_4 : wc.cell? ⟨gb107, 4, none⟩ = some (.string a0_4) := (bC BK107.out 4).trans rfl
       have hfz18_0 := bF BK107.out 0
       have hfz18_1 := bF BK107.out 1
       have hfz18_2 := bF BK107.out 2
       have hfz18_3 := bF BK107.out 3
       have hfz18_4 := bF BK107.out 4
       go_wp2_with (first | (go_at_call 51; (with_reducible refine (step_number.calls a0_1 false _ A14.out).mono ?_); rintro e w' ⟨rfl, ⟨nd, rfl⟩⟩))
       go_ret
       exact ⟨by first | rfl | (simp [errW_none, errW_some] <;> rfl) | (simp [*, errW_none, errW_some] <;> rfl), bA⟩
     ·rw [if_neg c13] at H
      have c13b0 : decide (a0_0 ≤ 8) = false := decide_eq_false c13
      clear c13
      obtain rfl := Option.some.inj H
      have hcz19_0 : wc.cell? ⟨gb107, 0, none⟩ = some (.int .i64 a0_0) := (bC BK107.out 0).trans rfl
      have hcz19_1 : wc.cell? ⟨gb107, 1, none⟩ = some (.int .i64 a0_1) := (bC BK107.out 1).trans rfl
      have hcz19_2 : wc.cell? ⟨gb107, 2, none⟩ = some (.int .i64 a0_2) := (bC BK107.out 2).trans rfl
      have hcz19_3 : wc.cell? ⟨gb107, 3, none⟩ = some (.int .u64 a0_3) := (bC BK107.out 3).trans rfl
      have hcz19_4 : wc.cell? ⟨gb107, 4, none⟩ = some (.string a0_4) := (bC BK107.out 4).trans rfl
      have hfz19_0 := bF BK107.out 0
      have hfz19_1 := bF BK107.out 1
      have hfz19_2 := bF BK107.out 2
      have hfz19_3 := bF BK107.out 3
      have hfz19_4 := bF BK107.out 4
      go_wp2
      go_ret
      exact ⟨by first | rfl | (simp [errW_none, errW_some] <;> rfl) | (simp [*, errW_none, errW_some] <;> rfl), bA⟩
    ·rw [if_neg c12] at H
     have c12b0 : decide (1 ≤ a0_0) = false := decide_eq_false c12
     clear c12
     obtain rfl := Option.some.inj H
     have hcz20_0 : wc.cell? ⟨gb107, 0, none⟩ = some (.int .i64 a0_0) := (bC BK107.out 0).trans rfl
     have hcz20_1 : wc.cell? ⟨gb107, 1, none⟩ = some (.int .i64 a0_1) := (bC BK107.out 1).trans rfl
     have hcz20_2 : wc.cell? ⟨gb107, 2, none⟩ = some (.int .i64 a0_2) := (bC BK107.out 2).trans rfl
     have hcz20_3 : wc.cell? ⟨gb107, 3, none⟩ = some (.int .u64 a0_3) := (bC BK107.out 3).trans rfl
     have hcz20_4 : wc.cell? ⟨gb107, 4, none⟩ = some (.string a0_4) := (bC BK107.out 4).trans rfl
     have hfz20_0 := bF BK107.out 0
     have hfz20_1 := bF BK107.out 1
     have hfz20_2 := bF BK107.out 2
     have hfz20_3 := bF BK107.out 3
     have hfz20_4 := bF BK107.out 4
     go_wp2
     go_ret
     exact ⟨by first | rfl | (simp [errW_none, errW_some] <;> rfl) | (simp [*, errW_none, errW_some] <;> rfl), bA⟩
def step_Put.f (k : Nat) (a0_0 : Int) (a0_1 : Int) (a0_2 : Int) (a0_3 : Int) (a0_4 : ByteArray) : Option (ByteArray × Int) := (step_Right.f k a0_0 a0_1 a0_2 a0_3 a0_4).bind fun t114 => (if t114 = true then ((le_Put.f (IntKind.u64.wrap (a0_0)) 1).bind fun t115 => ((le_Put.f (IntKind.u64.wrap (a0_1)) 4).bind fun t116 => (if t115.size + t116.size ≤ 9223372036854775807 then ((le_Put.f (IntKind.u64.wrap (a0_2)) 4).bind fun t117 => (if t115.size + t116.size + t117.size ≤ 9223372036854775807 then ((le_Put.f a0_3 8).bind fun t118 => (if t115.size + t116.size + t117.size + t118.size ≤ 9223372036854775807 then (if t115.size + t116.size + t117.size + t118.size + a0_4.size ≤ 9223372036854775807 then ((seal_Put.f ((((t115 ++ t116) ++ t117) ++ t118) ++ a0_4)).bind fun t119 => ((le_Put.f (IntKind.u64.wrap ((t119.size : Int))) 2).bind fun t120 => (if t120.size + t119.size ≤ 9223372036854775807 then (some (t120 ++ t119, 0)) else (none)))) else (none)) else (none))) else (none))) else (none)))) else (some ((⟨#[]⟩ : ByteArray), 1)))
theorem step_Put.mono : ∀ a0 a1 a2 a3 a4 k, LeO (step_Put.f k a0 a1 a2 a3 a4) (step_Put.f (k + 1) a0 a1 a2 a3 a4) := by
 intro a0 a1 a2 a3 a4 k
 unfold step_Put.f
 repeat' first
   | (with_reducible exact step_Right.mono _ _ _ _ _ _)
   | (with_reducible exact LeO.refl _)
   | (with_reducible exact LeO.none _)
   | (with_reducible refine LeO.ite ?_ ?_)
   | (with_reducible refine LeO.bind ?_ (fun _ => ?_))
   | exact step_Right.mono _ _ _ _ _ _
   | exact LeO.none _
   | refine LeO.ite ?_ ?_
   | refine LeO.bind ?_ (fun _ => ?_)
def step_Put.T3 : Bool × List (List Nat × List Nat) := (true, [([], []), ([0], [0]), ([1], [1]), ([2], [2]), ([], []), ([4], [4]), ([5], [5]), ([6, 3], [6]), ([3, 7], [3, 7]), ([], []), ([9], [9]), ([10], [10]), ([11, 7], [11]), ([8, 12], [8, 12]), ([], []), ([14], [14]), ([15, 12], [15]), ([13, 16], [13, 16]), ([], []), ([18], [18]), ([17, 19], [17, 19]), ([20, 16], [20]), ([21, 21, 0, 1, 2, 3, 4, 5, 6, 7, 8, 9, 10, 11, 12, 13, 14, 15, 16, 17, 18, 19, 20, 21], [21])])
def step_Put.B3 : List Nat := [0, 1, 3, 7, 0, 16, 48, 127, 255, 0, 512, 1536, 3839, 8191, 0, 16384, 57087, 131071, 0, 262144, 1048575, 2097151, 4194303]
theorem step_Put.tab3 : rtab .any (opsOf Tryd.f19 3) = step_Put.T3 := by kernel_rfl
theorem step_Put.bits3 : waitsOk step_Put.T3.2 step_Put.B3 = true := by kernel_rfl
set_option maxHeartbeats 8000000 in
set_option maxRecDepth 100000 in
theorem step_Put.calls (k : Nat) (a0_0 : Int) (a0_1 : Int) (a0_2 : Int) (a0_3 : Int) (a0_4 : ByteArray) (r1 : ByteArray) (r2 : Int) (w : World) (h : step_Put.f k a0_0 a0_1 a0_2 a0_3 a0_4 = some (r1, r2)) (HT : Tabs w) :
  Calls Tryd.prog 19 #[.agg #[.int .i64 a0_0, .int .i64 a0_1, .int .i64 a0_2, .int .u64 a0_3, .string a0_4]] w fun e w' => e = .returned (.tuple #[.string r1, .int .i64 r2]) ∧ Below w.heap.size w w' := by
 have hu24 := Tryd.underlying24
 have HB := Ax.mk (Below.refl w.heap.size w)
 have H : ((step_Right.f k a0_0 a0_1 a0_2 a0_3 a0_4).bind fun t114 => (if t114 = true then ((le_Put.f (IntKind.u64.wrap (a0_0)) 1).bind fun t115 => ((le_Put.f (IntKind.u64.wrap (a0_1)) 4).bind fun t116 => (if t115.size + t116.size ≤ 9223372036854775807 then ((le_Put.f (IntKind.u64.wrap (a0_2)) 4).bind fun t117 => (if t115.size + t116.size + t117.size ≤ 9223372036854775807 then ((le_Put.f a0_3 8).bind fun t118 => (if t115.size + t116.size + t117.size + t118.size ≤ 9223372036854775807 then (if t115.size + t116.size + t117.size + t118.size + a0_4.size ≤ 9223372036854775807 then ((seal_Put.f ((((t115 ++ t116) ++ t117) ++ t118) ++ a0_4)).bind fun t119 => ((le_Put.f (IntKind.u64.wrap ((t119.size : Int))) 2).bind fun t120 => (if t120.size + t119.size ≤ 9223372036854775807 then (some (t120 ++ t119, 0)) else (none)))) else (none)) else (none))) else (none))) else (none)))) else (some ((⟨#[]⟩ : ByteArray), 1)))) = some (r1, r2) := h
 clear h
 replace H := Option.bind_eq_some_iff.mp H
 obtain ⟨t114, A20, H⟩ := H
 replace H : (if t114 = true then ((le_Put.f (IntKind.u64.wrap (a0_0)) 1).bind fun t115 => ((le_Put.f (IntKind.u64.wrap (a0_1)) 4).bind fun t116 => (if t115.size + t116.size ≤ 9223372036854775807 then ((le_Put.f (IntKind.u64.wrap (a0_2)) 4).bind fun t117 => (if t115.size + t116.size + t117.size ≤ 9223372036854775807 then ((le_Put.f a0_3 8).bind fun t118 => (if t115.size + t116.size + t117.size + t118.size ≤ 9223372036854775807 then (if t115.size + t116.size + t117.size + t118.size + a0_4.size ≤ 9223372036854775807 then ((seal_Put.f ((((t115 ++ t116) ++ t117) ++ t118) ++ a0_4)).bind fun t119 => ((le_Put.f (IntKind.u64.wrap ((t119.size : Int))) 2).bind fun t120 => (if t120.size + t119.size ≤ 9223372036854775807 then (some (t120 ++ t119, 0)) else (none)))) else (none)) else (none))) else (none))) else (none)))) else (some ((⟨#[]⟩ : ByteArray), 1))) = some (r1, r2) := H
 have A2 := Ax.mk A20
 clear A20
 by_cases c3 : t114 = true
 ·subst c3
  have H1 : ((le_Put.f (IntKind.u64.wrap (a0_0)) 1).bind fun t115 => ((le_Put.f (IntKind.u64.wrap (a0_1)) 4).bind fun t116 => (if t115.size + t116.size ≤ 9223372036854775807 then ((le_Put.f (IntKind.u64.wrap (a0_2)) 4).bind fun t117 => (if t115.size + t116.size + t117.size ≤ 9223372036854775807 then ((le_Put.f a0_3 8).bind fun t118 => (if t115.size + t116.size + t117.size + t118.size ≤ 9223372036854775807 then (if t115.size + t116.size + t117.size + t118.size + a0_4.size ≤ 9223372036854775807 then ((seal_Put.f ((((t115 ++ t116) ++ t117) ++ t118) ++ a0_4)).bind fun t119 => ((le_Put.f (IntKind.u64.wrap ((t119.size : Int))) 2).bind fun t120 => (if t120.size + t119.size ≤ 9223372036854775807 then (some (t120 ++ t119, 0)) else (none)))) else (none)) else (none))) else (none))) else (none)))) = some (r1, r2) := by rw [if_pos rfl] at H; exact H
  clear H
  have H := H1
  clear H1
  replace H := Option.bind_eq_some_iff.mp H
  obtain ⟨t115, A40, H⟩ := H
  replace H : ((le_Put.f (IntKind.u64.wrap (a0_1)) 4).bind fun t116 => (if t115.size + t116.size ≤ 9223372036854775807 then ((le_Put.f (IntKind.u64.wrap (a0_2)) 4).bind fun t117 => (if t115.size + t116.size + t117.size ≤ 9223372036854775807 then ((le_Put.f a0_3 8).bind fun t118 => (if t115.size + t116.size + t117.size + t118.size ≤ 9223372036854775807 then (if t115.size + t116.size + t117.size + t118.size + a0_4.size ≤ 9223372036854775807 then ((seal_Put.f ((((t115 ++ t116) ++ t117) ++ t118) ++ a0_4)).bind fun t119 => ((le_Put.f (IntKind.u64.wrap ((t119.size : Int))) 2).bind fun t120 => (if t120.size + t119.size ≤ 9223372036854775807 then (some (t120 ++ t119, 0)) else (none)))) else (none)) else (none))) else (none))) else (none))) = some (r1, r2) := H
  have A4 := Ax.mk A40
  clear A40
  replace H := Option.bind_eq_some_iff.mp H
  obtain ⟨t116, A50, H⟩ := H
  replace H : (if t115.size + t116.size ≤ 9223372036854775807 then ((le_Put.f (IntKind.u64.wrap (a0_2)) 4).bind fun t117 => (if t115.size + t116.size + t117.size ≤ 9223372036854775807 then ((le_Put.f a0_3 8).bind fun t118 => (if t115.size + t116.size + t117.size + t118.size ≤ 9223372036854775807 then (if t115.size + t116.size + t117.size + t118.size + a0_4.size ≤ 9223372036854775807 then ((seal_Put.f ((((t115 ++ t116) ++ t117) ++ t118) ++ a0_4)).bind fun t119 => ((le_Put.f (IntKind.u64.wrap ((t119.size : Int))) 2).bind fun t120 => (if t120.size + t119.size ≤ 9223372036854775807 then (some (t120 ++ t119, 0)) else (none)))) else (none)) else (none))) else (none))) else (none)) = some (r1, r2) := H
  have A5 := Ax.mk A50
  clear A50
  by_cases c6 : t115.size + t116.size ≤ 9223372036854775807
  ·rw [if_pos c6] at H
   have c6b0 := eq_true c6
   have c6b1 : decide (t115.size + t116.size ≤ 9223372036854775807) = true := decide_eq_true c6
   try have c6b2 : (9223372036854775807 < t115.size + t116.size) = False := eq_false (Nat.not_lt.2 c6)
   replace H := Option.bind_eq_some_iff.mp H
   obtain ⟨t117, A70, H⟩ := H
   replace H : (if t115.size + t116.size + t117.size ≤ 9223372036854775807 then ((le_Put.f a0_3 8).bind fun t118 => (if t115.size + t116.size + t117.size + t118.size ≤ 9223372036854775807 then (if t115.size + t116.size + t117.size + t118.size + a0_4.size ≤ 9223372036854775807 then ((seal_Put.f ((((t115 ++ t116) ++ t117) ++ t118) ++ a0_4)).bind fun t119 => ((le_Put.f (IntKind.u64.wrap ((t119.size : Int))) 2).bind fun t120 => (if t120.size + t119.size ≤ 9223372036854775807 then (some (t120 ++ t119, 0)) else (none)))) else (none)) else (none))) else (none)) = some (r1, r2) := H
   have A7 := Ax.mk A70
   clear A70
   by_cases c8 : t115.size + t116.size + t117.size ≤ 9223372036854775807
   ·rw [if_pos c8] at H
    have c8b0 := eq_true c8
    have c8b1 : decide (t115.size + t116.size + t117.size ≤ 9223372036854775807) = true := decide_eq_true c8
    try have c8b2 : (9223372036854775807 < t115.size + t116.size + t117.size) = False := eq_false (Nat.not_lt.2 c8)
    replace H := Option.bind_eq_some_iff.mp H
    obtain ⟨t118, A90, H⟩ := H
    replace H : (if t115.size + t116.size + t117.size + t118.size ≤ 9223372036854775807 then (if t115.size + t116.size + t117.size + t118.size + a0_4.size ≤ 9223372036854775807 then ((seal_Put.f ((((t115 ++ t116) ++ t117) ++ t118) ++ a0_4)).bind fun t119 => ((le_Put.f (IntKind.u64.wrap ((t119.size : Int))) 2).bind fun t120 => (if t120.size + t119.size ≤ 9223372036854775807 then (some (t120 ++ t119, 0)) else (none)))) else (none)) else (none)) = some (r1, r2) := H
    have A9 := Ax.mk A90
    clear A90
    by_cases c10 : t115.size + t116.size + t117.size + t118.size ≤ 9223372036854775807
    ·rw [if_pos c10] at H
     have c10b0 := eq_true c10
     have c10b1 : decide (t115.size + t116.size + t117.size + t118.size ≤ 9223372036854775807) = true := decide_eq_true c10
     try have c10b2 : (9223372036854775807 < t115.size + t116.size + t117.size + t118.size) = False := eq_false (Nat.not_lt.2 c10)
     by_cases c11 : t115.size + t116.size + t117.size + t118.size + a0_4.size ≤ 9223372036854775807
     ·rw [if_pos c11] at H
      have c11b0 := eq_true c11
      have c11b1 : decide (t115.size + t116.size + t117.size + t118.size + a0_4.size ≤ 9223372036854775807) = true := decide_eq_true c11
      try have c11b2 : (9223372036854775807 < t115.size + t116.size + t117.size + t118.size + a0_4.size) = False := eq_false (Nat.not_lt.2 c11)
      replace H := Option.bind_eq_some_iff.mp H
      obtain ⟨t119, A120, H⟩ := H
      replace H : ((le_Put.f (IntKind.u64.wrap ((t119.size : Int))) 2).bind fun t120 => (if t120.size + t119.size ≤ 9223372036854775807 then (some (t120 ++ t119, 0)) else (none))) = some (r1, r2) := H
      have A12 := Ax.mk A120
      clear A120
      replace H := Option.bind_eq_some_iff.mp H
      obtain ⟨t120, A130, H⟩ := H
      replace H : (if t120.size + t119.size ≤ 9223372036854775807 then (some (t120 ++ t119, 0)) else (none)) = some (r1, r2) := H
      have A13 := Ax.mk A130
      clear A130
      by_cases c14 : t120.size + t119.size ≤ 9223372036854775807
      ·rw [if_pos c14] at H
       have c14b0 := eq_true c14
       have c14b1 : decide (t120.size + t119.size ≤ 9223372036854775807) = true := decide_eq_true c14
       try have c14b2 : (9223372036854775807 < t120.size + t119.size) = False := eq_false (Nat.not_lt.2 c14)
       simp only [Option.some.injEq, Prod.mk.injEq] at H
       obtain ⟨rfl, rfl⟩ := H
       go_enter Tryd.func19, Tryd.ntmps19
       try go_wp2_with (first | ((with_reducible refine gate_dst (N := 1) rfl ?_); refine box_event ?hg (N := 1) ?hd (cs := #[.int .i64 a0_0, .int .i64 a0_1, .int .i64 a0_2, .int .u64 a0_3, .string a0_4]) (t := 24) ?hr ?_; (case hd => rfl); (case hg => rfl); (case hr => first | (go_simp; done) | (go_simp; rfl)); intro gb113 hg w15 hbox hb; have n0_ := Ax.mk (bP bA hb); have n1_ := Ax.mk (hbox); have n2_ := Ax.mk ((ge_new hg : w.heap.size ≤ gb113)); have n3_ := n2_; clear HB; have HB := n0_; have BK113 := n1_; have GW113 := n2_; have GE113 := n3_; clear n0_ n1_ n2_ n3_; clear hb hbox hg; have hcz16_0 : w15.cell? ⟨gb113, 0, none⟩ = some (.int .i64 a0_0) := (bC BK113.out 0).trans rfl; have hcz16_1 : w15.cell? ⟨gb113, 1, none⟩ = some (.int .i64 a0_1) := (bC BK113.out 1).trans rfl; have hcz16_2 : w15.cell? ⟨gb113, 2, none⟩ = some (.int .i64 a0_2) := (bC BK113.out 2).trans rfl; have hcz16_3 : w15.cell? ⟨gb113, 3, none⟩ = some (.int .u64 a0_3) := (bC BK113.out 3).trans rfl; have hcz16_4 : w15.cell? ⟨gb113, 4, none⟩ = some (.string a0_4) := (bC BK113.out 4).trans rfl; have hfz16_0 := bF BK113.out 0; have hfz16_1 := bF BK113.out 1; have hfz16_2 := bF BK113.out 2; have hfz16_3 := bF BK113.out 3; have hfz16_4 := bF BK113.out 4) | ((with_reducible refine gate_callee (f := 21) rfl ?_); refine goesL_ (some 6) rfl rfl Tryd.func21 (by kernel_rfl) rfl #[.agg #[.int .i64 a0_0, .int .i64 a0_1, .int .i64 a0_2, .int .u64 a0_3, .string a0_4]] rfl (by (try simp only [List.map_toArray, List.map_cons, List.map_nil]); first | done | rfl | (simp only [List.length_drop, List.length_take]; rfl) | (rw [wrap_sum2 (by assumption)]; rfl)) ?_; (with_reducible refine (step_Right.calls k a0_0 a0_1 a0_2 a0_3 a0_4 true _ A2.out (HT.below bA)).mono ?_); rintro e w17 ⟨rfl, hb⟩; refine ⟨_, rfl, ?_⟩; have n0_ := Ax.mk (bB (bT BK113.out) hb); have n1_ := Ax.mk (bP bA hb); clear BK113; clear HB; have BK113 := n0_; have HB := n1_; clear n0_ n1_; (try clear hb); (try clear hb2); (try clear hk); (try clear hi)))
       have n0_ := Ax.mk (blk_drew BK113.out)
       have n1_ := Ax.mk (below_drew1 HB.out)
       clear BK113
       clear HB
       have BK113 := n0_
       have HB := n1_
       clear n0_ n1_
       refine start_ (n := 23) (S := fun w' => w'.cell? ⟨gb113, 0, none⟩ = some (.int .i64 a0_0) ∧ w'.cell? ⟨gb113, 1, none⟩ = some (.int .i64 a0_1) ∧ w'.cell? ⟨gb113, 2, none⟩ = some (.int .i64 a0_2) ∧ w'.cell? ⟨gb113, 3, none⟩ = some (.int .u64 a0_3) ∧ w'.cell? ⟨gb113, 4, none⟩ = some (.string a0_4)) (ds := []) (TF 0 23) (by kernel_rfl) rfl rfl ⟨(bC BK113.out 0).trans rfl, (bC BK113.out 1).trans rfl, (bC BK113.out 2).trans rfl, (bC BK113.out 3).trans rfl, (bC BK113.out 4).trans rfl⟩ (fun hHeld => ?_); refine with_tabW step_Put.tab3 step_Put.bits3 (fun HT_ HW_ => ?_)
       generalize w17.drew = w18 at BK113 HB hHeld ⊢
       refine pure_ (i := 0) (N := some 8) (v := ?_) (a' := ?_) (TF 1 22) rfl rfl (any_of HT_.out (by kernel_rfl)) (fun _ _ _ h => h) (Or.inl ⟨by rfl, ?_⟩) ?_ ?_
       rotate_left; · intro w'; go_simp; with_reducible rfl
       rotate_left; · simp only [Act.put, sI, sZ, sS, i64_w, i32_w]; rfl
       refine pure_ (i := 4) (N := some 12) (v := ?_) (a' := ?_) (BT 23 17) rfl rfl (any_of HT_.out (by kernel_rfl)) (fun _ _ _ h => h) (Or.inl ⟨by rfl, ?_⟩) ?_ ?_
       rotate_left; · intro w'; go_simp; with_reducible rfl
       rotate_left; · simp only [Act.put, sI, sZ, sS, i64_w, i32_w]; rfl
       refine pure_ (i := 9) (N := some 17) (v := ?_) (a' := ?_) (BT 23 529) rfl rfl (any_of HT_.out (by kernel_rfl)) (fun _ _ _ h => h) (Or.inl ⟨by rfl, ?_⟩) ?_ ?_
       rotate_left; · intro w'; go_simp; with_reducible rfl
       rotate_left; · simp only [Act.put, sI, sZ, sS, i64_w, i32_w]; rfl
       refine pure_ (i := 14) (N := some 22) (v := ?_) (a' := ?_) (BT 23 16913) rfl rfl (any_of HT_.out (by kernel_rfl)) (fun _ _ _ h => h) (Or.inl ⟨by rfl, ?_⟩) ?_ ?_
       rotate_left; · intro w'; go_simp; with_reducible rfl
       rotate_left; · simp only [Act.put, sI, sZ, sS, i64_w, i32_w]; rfl
       refine pure_ (i := 18) (N := some 26) (v := ?_) (a' := ?_) (BT 23 279057) rfl rfl (any_of HT_.out (by kernel_rfl)) (fun _ _ _ h => h) (Or.inl ⟨by rfl, ?_⟩) ?_ ?_
       rotate_left; · intro w'; go_simp; with_reducible rfl
       rotate_left; · simp only [Act.put, sI, sZ, sS, i64_w, i32_w]; rfl
       refine take_ (i := 1) (N := some 9) (v := ?_) (a' := ?_) (BT 23 279059) rfl rfl (take_ofW HT_.out HW_.out (by kernel_rfl)) (fun _ _ _ h => h) (Or.inl ⟨by rfl, ?_⟩) hHeld ?_ ?_
       rotate_left
       ·rintro w' ⟨s0, s1, s2, s3, s4⟩
        go_simp
        with_reducible rfl
       rotate_left
       ·simp only [Act.put, sI, sZ, sS, i64_w, i32_w]
        rfl
       refine pure_ (i := 2) (N := some 10) (v := ?_) (a' := ?_) (BT 23 279063) rfl rfl (any_of HT_.out (by kernel_rfl)) (fun _ _ _ h => h) (Or.inl ⟨by rfl, ?_⟩) ?_ ?_
       rotate_left; · intro w'; go_simp; with_reducible rfl
       rotate_left; · simp only [Act.put, sI, sZ, sS, i64_w, i32_w]; rfl
       refine take_ (i := 5) (N := some 13) (v := ?_) (a' := ?_) (BT 23 279095) rfl rfl (take_ofW HT_.out HW_.out (by kernel_rfl)) (fun _ _ _ h => h) (Or.inl ⟨by rfl, ?_⟩) hHeld ?_ ?_
       rotate_left
       ·rintro w' ⟨s0, s1, s2, s3, s4⟩
        go_simp
        with_reducible rfl
       rotate_left
       ·simp only [Act.put, sI, sZ, sS, i64_w, i32_w]
        rfl
       refine pure_ (i := 6) (N := some 14) (v := ?_) (a' := ?_) (BT 23 279159) rfl rfl (any_of HT_.out (by kernel_rfl)) (fun _ _ _ h => h) (Or.inl ⟨by rfl, ?_⟩) ?_ ?_
       rotate_left; · intro w'; go_simp; with_reducible rfl
       rotate_left; · simp only [Act.put, sI, sZ, sS, i64_w, i32_w]; rfl
       refine take_ (i := 10) (N := some 18) (v := ?_) (a' := ?_) (BT 23 280183) rfl rfl (take_ofW HT_.out HW_.out (by kernel_rfl)) (fun _ _ _ h => h) (Or.inl ⟨by rfl, ?_⟩) hHeld ?_ ?_
       rotate_left
       ·rintro w' ⟨s0, s1, s2, s3, s4⟩
        go_simp
        with_reducible rfl
       rotate_left
       ·simp only [Act.put, sI, sZ, sS, i64_w, i32_w]
        rfl
       refine pure_ (i := 11) (N := some 19) (v := ?_) (a' := ?_) (BT 23 282231) rfl rfl (any_of HT_.out (by kernel_rfl)) (fun _ _ _ h => h) (Or.inl ⟨by rfl, ?_⟩) ?_ ?_
       rotate_left; · intro w'; go_simp; with_reducible rfl
       rotate_left; · simp only [Act.put, sI, sZ, sS, i64_w, i32_w]; rfl
       refine take_ (i := 15) (N := some 23) (v := ?_) (a' := ?_) (BT 23 314999) rfl rfl (take_ofW HT_.out HW_.out (by kernel_rfl)) (fun _ _ _ h => h) (Or.inl ⟨by rfl, ?_⟩) hHeld ?_ ?_
       rotate_left
       ·rintro w' ⟨s0, s1, s2, s3, s4⟩
        go_simp
        with_reducible rfl
       rotate_left
       ·simp only [Act.put, sI, sZ, sS, i64_w, i32_w]
        rfl
       refine take_ (i := 19) (N := some 27) (v := ?_) (a' := ?_) (BT 23 839287) rfl rfl (take_ofW HT_.out HW_.out (by kernel_rfl)) (fun _ _ _ h => h) (Or.inl ⟨by rfl, ?_⟩) hHeld ?_ ?_
       rotate_left
       ·rintro w' ⟨s0, s1, s2, s3, s4⟩
        go_simp
        with_reducible rfl
       rotate_left
       ·simp only [Act.put, sI, sZ, sS, i64_w, i32_w]
        rfl
       refine one_ (i := 3) (N := some 11) (BT 23 839295) rfl rfl (one_of HT_.out (by kernel_rfl)) (by decide) (fun K hK => ?_)
       refine goes_ Tryd.func47 (by kernel_rfl) rfl #[.int .u64 (IntKind.u64.wrap (a0_0)), .int .i64 1] (by rfl) rfl rfl (by (try simp only [List.map_toArray, List.map_cons, List.map_nil]); first | done | rfl | (simp only [List.length_drop, List.length_take]; rfl) | (rw [wrap_sum2 (by assumption)]; rfl)) ?_
       with_reducible refine (le_Put.calls (IntKind.u64.wrap (a0_0)) 1 t115 _ A4.out).mono ?_
       rintro e w19 ⟨rfl, hb⟩
       refine ⟨_, rfl, ?_⟩
       have n0_ := Ax.mk (bB (bT BK113.out) hb)
       have n1_ := Ax.mk (bP bA hb)
       clear BK113
       clear HB
       have BK113 := n0_
       have HB := n1_
       clear n0_ n1_
       (try clear hb)
       (try clear hb2)
       (try clear hk)
       (try clear hi)
       refine hK.out _ _ ⟨(bC BK113.out 0).trans rfl, (bC BK113.out 1).trans rfl, (bC BK113.out 2).trans rfl, (bC BK113.out 3).trans rfl, (bC BK113.out 4).trans rfl⟩ (fun hHeld => ?_)
       clear hK K
       refine norm_ (a' := ?_) ?_ ?_
       rotate_left
       ·show Act.put _ (some 11) _ = _
        simp only [Act.put, sI, sZ, sS, i64_w, i32_w]
        rfl
       refine one_ (i := 7) (N := some 15) (BT 23 839423) rfl rfl (one_of HT_.out (by kernel_rfl)) (by decide) (fun K hK => ?_)
       refine goes_ Tryd.func47 (by kernel_rfl) rfl #[.int .u64 (IntKind.u64.wrap (a0_1)), .int .i64 4] (by rfl) rfl rfl (by (try simp only [List.map_toArray, List.map_cons, List.map_nil]); first | done | rfl | (simp only [List.length_drop, List.length_take]; rfl) | (rw [wrap_sum2 (by assumption)]; rfl)) ?_
       with_reducible refine (le_Put.calls (IntKind.u64.wrap (a0_1)) 4 t116 _ A5.out).mono ?_
       rintro e w20 ⟨rfl, hb⟩
       refine ⟨_, rfl, ?_⟩
       have n0_ := Ax.mk (bB (bT BK113.out) hb)
       have n1_ := Ax.mk (bP bA hb)
       clear BK113
       clear HB
       have BK113 := n0_
       have HB := n1_
       clear n0_ n1_
       (try clear hb)
       (try clear hb2)
       (try clear hk)
       (try clear hi)
       refine hK.out _ _ ⟨(bC BK113.out 0).trans rfl, (bC BK113.out 1).trans rfl, (bC BK113.out 2).trans rfl, (bC BK113.out 3).trans rfl, (bC BK113.out 4).trans rfl⟩ (fun hHeld => ?_)
       clear hK K
       refine norm_ (a' := ?_) ?_ ?_
       rotate_left
       ·show Act.put _ (some 15) _ = _
        simp only [Act.put, sI, sZ, sS, i64_w, i32_w]
        rfl
       refine pure_ (i := 8) (N := some 16) (v := ?_) (a' := ?_) (BT 23 839679) rfl rfl (any_of HT_.out (by kernel_rfl)) (fun _ _ _ h => h) (Or.inl ⟨by rfl, ?_⟩) ?_ ?_
       rotate_left; · intro w'; go_simp; with_reducible rfl
       rotate_left; · simp only [Act.put, sI, sZ, sS, i64_w, i32_w]; rfl
       refine one_ (i := 12) (N := some 20) (BT 23 843775) rfl rfl (one_of HT_.out (by kernel_rfl)) (by decide) (fun K hK => ?_)
       refine goes_ Tryd.func47 (by kernel_rfl) rfl #[.int .u64 (IntKind.u64.wrap (a0_2)), .int .i64 4] (by rfl) rfl rfl (by (try simp only [List.map_toArray, List.map_cons, List.map_nil]); first | done | rfl | (simp only [List.length_drop, List.length_take]; rfl) | (rw [wrap_sum2 (by assumption)]; rfl)) ?_
       with_reducible refine (le_Put.calls (IntKind.u64.wrap (a0_2)) 4 t117 _ A7.out).mono ?_
       rintro e w21 ⟨rfl, hb⟩
       refine ⟨_, rfl, ?_⟩
       have n0_ := Ax.mk (bB (bT BK113.out) hb)
       have n1_ := Ax.mk (bP bA hb)
       clear BK113
       clear HB
       have BK113 := n0_
       have HB := n1_
       clear n0_ n1_
       (try clear hb)
       (try clear hb2)
       (try clear hk)
       (try clear hi)
       refine hK.out _ _ ⟨(bC BK113.out 0).trans rfl, (bC BK113.out 1).trans rfl, (bC BK113.out 2).trans rfl, (bC BK113.out 3).trans rfl, (bC BK113.out 4).trans rfl⟩ (fun hHeld => ?_)
       clear hK K
       refine norm_ (a' := ?_) ?_ ?_
       rotate_left
       ·show Act.put _ (some 20) _ = _
        simp only [Act.put, sI, sZ, sS, i64_w, i32_w]
        rfl
       refine pure_ (i := 13) (N := some 21) (v := ?_) (a' := ?_) (BT 23 851967) rfl rfl (any_of HT_.out (by kernel_rfl)) (fun _ _ _ h => h) (Or.inl ⟨by rfl, ?_⟩) ?_ ?_
       rotate_left; · intro w'; go_simp; with_reducible rfl
       rotate_left; · simp only [Act.put, sI, sZ, sS, i64_w, i32_w]; rfl
       refine one_ (i := 16) (N := some 24) (BT 23 917503) rfl rfl (one_of HT_.out (by kernel_rfl)) (by decide) (fun K hK => ?_)
       refine goes_ Tryd.func47 (by kernel_rfl) rfl #[.int .u64 a0_3, .int .i64 8] (by rfl) rfl rfl (by (try simp only [List.map_toArray, List.map_cons, List.map_nil]); first | done | rfl | (simp only [List.length_drop, List.length_take]; rfl) | (rw [wrap_sum2 (by assumption)]; rfl)) ?_
       with_reducible refine (le_Put.calls a0_3 8 t118 _ A9.out).mono ?_
       rintro e w22 ⟨rfl, hb⟩
       refine ⟨_, rfl, ?_⟩
       have n0_ := Ax.mk (bB (bT BK113.out) hb)
       have n1_ := Ax.mk (bP bA hb)
       clear BK113
       clear HB
       have BK113 := n0_
       have HB := n1_
       clear n0_ n1_
       (try clear hb)
       (try clear hb2)
       (try clear hk)
       (try clear hi)
       refine hK.out _ _ ⟨(bC BK113.out 0).trans rfl, (bC BK113.out 1).trans rfl, (bC BK113.out 2).trans rfl, (bC BK113.out 3).trans rfl, (bC BK113.out 4).trans rfl⟩ (fun hHeld => ?_)
       clear hK K
       refine norm_ (a' := ?_) ?_ ?_
       rotate_left
       ·show Act.put _ (some 24) _ = _
        simp only [Act.put, sI, sZ, sS, i64_w, i32_w]
        rfl
       refine pure_ (i := 17) (N := some 25) (v := ?_) (a' := ?_) (TF 20 3) rfl rfl (any_of HT_.out (by kernel_rfl)) (fun _ _ _ h => h) (Or.inl ⟨by rfl, ?_⟩) ?_ ?_
       rotate_left; · intro w'; go_simp; with_reducible rfl
       rotate_left; · simp only [Act.put, sI, sZ, sS, i64_w, i32_w]; rfl
       refine pure_ (i := 20) (N := some 28) (v := ?_) (a' := ?_) (TF 21 2) rfl rfl (any_of HT_.out (by kernel_rfl)) (fun _ _ _ h => h) (Or.inl ⟨by rfl, ?_⟩) ?_ ?_
       rotate_left; · intro w'; go_simp; with_reducible rfl
       rotate_left; · simp only [Act.put, sI, sZ, sS, i64_w, i32_w]; rfl
       refine one_ (i := 21) (N := some 29) (TF 22 1) rfl rfl (one_of HT_.out (by kernel_rfl)) (by decide) (fun K hK => ?_)
       refine goes_ Tryd.func46 (by kernel_rfl) rfl #[.string ((((t115 ++ t116) ++ t117) ++ t118) ++ a0_4)] (by rfl) rfl rfl (by (try simp only [List.map_toArray, List.map_cons, List.map_nil]); first | done | rfl | (simp only [List.length_drop, List.length_take]; rfl) | (rw [wrap_sum2 (by assumption)]; rfl)) ?_
       with_reducible refine (seal_Put.calls ((((t115 ++ t116) ++ t117) ++ t118) ++ a0_4) t119 _ A12.out).mono ?_
       rintro e w23 ⟨rfl, hb⟩
       refine ⟨_, rfl, ?_⟩
       have n0_ := Ax.mk (bB (bT BK113.out) hb)
       have n1_ := Ax.mk (bP bA hb)
       clear BK113
       clear HB
       have BK113 := n0_
       have HB := n1_
       clear n0_ n1_
       (try clear hb)
       (try clear hb2)
       (try clear hk)
       (try clear hi)
       refine hK.out _ _ ⟨(bC BK113.out 0).trans rfl, (bC BK113.out 1).trans rfl, (bC BK113.out 2).trans rfl, (bC BK113.out 3).trans rfl, (bC BK113.out 4).trans rfl⟩ (fun hHeld => ?_)
       clear hK K
       refine norm_ (a' := ?_) ?_ ?_
       rotate_left
       ·show Act.put _ (some 29) _ = _
        simp only [Act.put, sI, sZ, sS, i64_w, i32_w]
        rfl
       refine pure_ (i := 22) (N := some 4) (v := ?_) (a' := ?_) (TF 23 0) rfl rfl (any_of HT_.out (by kernel_rfl)) (fun _ _ _ h => h) (Or.inl ⟨by rfl, ?_⟩) ?_ ?_
       rotate_left; · intro w'; go_simp; with_reducible rfl
       rotate_left; · simp only [Act.put, sI, sZ, sS, i64_w, i32_w]; rfl
       refine done_ (done_of HT_.out (by kernel_rfl)) ?_
       try go_wp2_with (first | ((with_reducible refine gate_callee (f := 47) rfl ?_); refine goesL_ (some 33) rfl rfl Tryd.func47 (by kernel_rfl) rfl #[.int .u64 (IntKind.u64.wrap ((t119.size : Int))), .int .i64 2] rfl (by (try simp only [List.map_toArray, List.map_cons, List.map_nil]); first | done | rfl | (simp only [List.length_drop, List.length_take]; rfl) | (rw [wrap_sum2 (by assumption)]; rfl)) ?_; (with_reducible refine (le_Put.calls (IntKind.u64.wrap ((t119.size : Int))) 2 t120 _ A13.out).mono ?_); rintro e w24 ⟨rfl, hb⟩; refine ⟨_, rfl, ?_⟩; have n0_ := Ax.mk (bB (bT BK113.out) hb); have n1_ := Ax.mk (bP bA hb); clear BK113; clear HB; have BK113 := n0_; have HB := n1_; clear n0_ n1_; (try clear hb); (try clear hb2); (try clear hk); (try clear hi)))
       go_ret2
       exact ⟨by first | rfl | (simp [errW_none, errW_some] <;> rfl) | (simp [*, errW_none, errW_some] <;> rfl), bA⟩
      ·rw [if_neg c14] at H
       exact absurd H (by simp)
     ·rw [if_neg c11] at H
      exact absurd H (by simp)
    ·rw [if_neg c10] at H
     exact absurd H (by simp)
   ·rw [if_neg c8] at H
    exact absurd H (by simp)
  ·rw [if_neg c6] at H
   exact absurd H (by simp)
 ·replace c3 := Bool.eq_false_iff.mpr c3
  subst c3
  have H1 : (some ((⟨#[]⟩ : ByteArray), 1)) = some (r1, r2) := by rw [if_neg (show ¬ (false = true) by decide)] at H; exact H
  clear H
  have H := H1
  clear H1
  simp only [Option.some.injEq, Prod.mk.injEq] at H
  obtain ⟨rfl, rfl⟩ := H
  go_enter Tryd.func19, Tryd.ntmps19
  go_wp2_with (first | ((with_reducible refine gate_dst (N := 1) rfl ?_); refine box_event ?hg (N := 1) ?hd (cs := #[.int .i64 a0_0, .int .i64 a0_1, .int .i64 a0_2, .int .u64 a0_3, .string a0_4]) (t := 24) ?hr ?_; (case hd => rfl); (case hg => rfl); (case hr => first | (go_simp; done) | (go_simp; rfl)); intro gb113 hg w25 hbox hb; have n0_ := Ax.mk (bP bA hb); have n1_ := Ax.mk (hbox); have n2_ := Ax.mk ((ge_new hg : w.heap.size ≤ gb113)); have n3_ := n2_; clear HB; have HB := n0_; have BK113 := n1_; have GW113 := n2_; have GE113 := n3_; clear n0_ n1_ n2_ n3_; clear hb hbox hg; have hcz26_0 : w25.cell? ⟨gb113, 0, none⟩ = some (.int .i64 a0_0) := (bC BK113.out 0).trans rfl; have hcz26_1 : w25.cell? ⟨gb113, 1, none⟩ = some (.int .i64 a0_1) := (bC BK113.out 1).trans rfl; have hcz26_2 : w25.cell? ⟨gb113, 2, none⟩ = some (.int .i64 a0_2) := (bC BK113.out 2).trans rfl; have hcz26_3 : w25.cell? ⟨gb113, 3, none⟩ = some (.int .u64 a0_3) := (bC BK113.out 3).trans rfl; have hcz26_4 : w25.cell? ⟨gb113, 4, none⟩ = some (.string a0_4) := (bC BK113.out 4).trans rfl; have hfz26_0 := bF BK113.out 0; have hfz26_1 := bF BK113.out 1; have hfz26_2 := bF BK113.out 2; have hfz26_3 := bF BK113.out 3; have hfz26_4 := bF BK113.out 4) | ((with_reducible refine gate_callee (f := 21) rfl ?_); refine goesL_ (some 6) rfl rfl Tryd.func21 (by kernel_rfl) rfl #[.agg #[.int .i64 a0_0, .int .i64 a0_1, .int .i64 a0_2, .int .u64 a0_3, .string a0_4]] rfl (by (try simp only [List.map_toArray, List.map_cons, List.map_nil]); first | done | rfl | (simp only [List.length_drop, List.length_take]; rfl) | (rw [wrap_sum2 (by assumption)]; rfl)) ?_; (with_reducible refine (step_Right.calls k a0_0 a0_1 a0_2 a0_3 a0_4 false _ A2.out (HT.below bA)).mono ?_); rintro e w27 ⟨rfl, hb⟩; refine ⟨_, rfl, ?_⟩; have n0_ := Ax.mk (bB (bT BK113.out) hb); have n1_ := Ax.mk (bP bA hb); clear BK113; clear HB; have BK113 := n0_; have HB := n1_; clear n0_ n1_; (try clear hb); (try clear hb2); (try clear hk); (try clear hi)))
  go_ret2
  exact ⟨by first | rfl | (simp [errW_none, errW_some] <;> rfl) | (simp [*, errW_none, errW_some] <;> rfl), bA⟩
def r12_Right.f (k : Nat) (a0_0 : Int) (a0_1 : Int) (a0_2 : Int) (a0_3 : Int) (a0_4 : ByteArray) : Option (Bool) := if a0_4.toList = ([] : List UInt8) then (if a0_0 ≥ 1 then (if a0_0 ≤ 8 then (if a0_1 ≥ 0 then (if a0_1 ≤ 2147483647 then (if a0_2 ≥ 0 then (some (decide (a0_2 ≤ 2147483647))) else (some false)) else (some false)) else (some false)) else (some false)) else (some false)) else (if a0_0 = 1 then ((r1_Right.f k a0_4).bind fun t253 => (if t253 = true then (if a0_0 ≥ 1 then (if a0_0 ≤ 8 then (if a0_1 ≥ 0 then (if a0_1 ≤ 2147483647 then (if a0_2 ≥ 0 then (some (decide (a0_2 ≤ 2147483647))) else (some false)) else (some false)) else (some false)) else (some false)) else (some false)) else (some false))) else (some false))
theorem r12_Right.mono : ∀ a0 a1 a2 a3 a4 k, LeO (r12_Right.f k a0 a1 a2 a3 a4) (r12_Right.f (k + 1) a0 a1 a2 a3 a4) := by
 intro a0 a1 a2 a3 a4 k
 unfold r12_Right.f
 repeat' first
   | (with_reducible exact r1_Right.mono _ _)
   | (with_reducible exact LeO.refl _)
   | (with_reducible exact LeO.none _)
   | (with_reducible refine LeO.ite ?_ ?_)
   | (with_reducible refine LeO.bind ?_ (fun _ => ?_))
   | exact r1_Right.mono _ _
   | exact LeO.none _
   | refine LeO.ite ?_ ?_
   | refine LeO.bind ?_ (fun _ => ?_)
def r12_Put.f (k : Nat) (a0_0 : Int) (a0_1 : Int) (a0_2 : Int) (a0_3 : Int) (a0_4 : ByteArray) : Option (ByteArray × Int) := (r12_Right.f k a0_0 a0_1 a0_2 a0_3 a0_4).bind fun t260 => (if t260 = true then ((r2_Put.f k (IntKind.u64.wrap (a0_0)) 1).bind fun t261 => ((r2_Put.f k (IntKind.u64.wrap (a0_1)) 4).bind fun t262 => (if t261.size + t262.size ≤ 9223372036854775807 then ((r2_Put.f k (IntKind.u64.wrap (a0_2)) 4).bind fun t263 => (if t261.size + t262.size + t263.size ≤ 9223372036854775807 then ((r2_Put.f k a0_3 8).bind fun t264 => (if t261.size + t262.size + t263.size + t264.size ≤ 9223372036854775807 then (if t261.size + t262.size + t263.size + t264.size + a0_4.size ≤ 9223372036854775807 then ((r3_Put.f k ((((t261 ++ t262) ++ t263) ++ t264) ++ a0_4)).bind fun t265 => ((r2_Put.f k (IntKind.u64.wrap ((t265.size : Int))) 2).bind fun t266 => (if t266.size + t265.size ≤ 9223372036854775807 then (some (t266 ++ t265, 0)) else (none)))) else (none)) else (none))) else (none))) else (none)))) else (some ((⟨#[]⟩ : ByteArray), 1)))
theorem r12_Put.mono : ∀ a0 a1 a2 a3 a4 k, LeO (r12_Put.f k a0 a1 a2 a3 a4) (r12_Put.f (k + 1) a0 a1 a2 a3 a4) := by
 intro a0 a1 a2 a3 a4 k
 unfold r12_Put.f
 repeat' first
   | (with_reducible exact r12_Right.mono _ _ _ _ _ _)
   | (with_reducible exact r2_Put.mono _ _ _)
   | (with_reducible exact r3_Put.mono _ _)
   | (with_reducible exact LeO.refl _)
   | (with_reducible exact LeO.none _)
   | (with_reducible refine LeO.ite ?_ ?_)
   | (with_reducible refine LeO.bind ?_ (fun _ => ?_))
   | exact r12_Right.mono _ _ _ _ _ _
   | exact r2_Put.mono _ _ _
   | exact r3_Put.mono _ _
   | exact LeO.none _
   | refine LeO.ite ?_ ?_
   | refine LeO.bind ?_ (fun _ => ?_)
def r12_Put.T4 : Bool × List (List Nat × List Nat) := (true, [([], []), ([0], [0]), ([1], [1]), ([2], [2]), ([], []), ([4], [4]), ([5], [5]), ([6, 3], [6]), ([3, 7], [3, 7]), ([], []), ([9], [9]), ([10], [10]), ([11, 7], [11]), ([8, 12], [8, 12]), ([], []), ([14], [14]), ([15, 12], [15]), ([13, 16], [13, 16]), ([], []), ([18], [18]), ([17, 19], [17, 19]), ([20, 16], [20]), ([21, 21, 0, 1, 2, 3, 4, 5, 6, 7, 8, 9, 10, 11, 12, 13, 14, 15, 16, 17, 18, 19, 20, 21], [21])])
def r12_Put.B4 : List Nat := [0, 1, 3, 7, 0, 16, 48, 127, 255, 0, 512, 1536, 3839, 8191, 0, 16384, 57087, 131071, 0, 262144, 1048575, 2097151, 4194303]
def step_Step.f (l : List S24) : Option (List S24) := if l.length ≤ 1000000000 then some l else none
def cellsOf24 (x : S24) : List Value := [.int .i64 x.f0, .int .i64 x.f1, .int .i64 x.f2, .int .u64 x.f3, .string x.f4]
theorem row24_len (l : List S24) : (l.flatMap cellsOf24).length = l.length * 5 := by
 induction l with
 | nil => rfl
 | cons x l ih => rw [List.flatMap_cons, List.length_append, ih, List.length_cons]; show 5 + _ = _; omega
theorem row24_at (l : List S24) : ∀ m, (l.flatMap cellsOf24)[m]? = (l[m / 5]?).bind fun x => (cellsOf24 x)[m % 5]? := by
 induction l with
 | nil => intro m; simp
 | cons x l ih =>
  intro m
  rw [List.flatMap_cons]
  rcases Nat.lt_or_ge m 5 with h | h
  ·rw [List.getElem?_append_left (by exact h), Nat.div_eq_of_lt h, Nat.mod_eq_of_lt h]; rfl
  ·rw [List.getElem?_append_right (by exact h)]
   show (l.flatMap cellsOf24)[m - 5]? = _
   rw [ih, show m / 5 = (m - 5) / 5 + 1 by omega, List.getElem?_cons_succ, show m % 5 = (m - 5) % 5 by omega]
theorem row24_take (l : List S24) (j : Nat) (p : S24) (h : l[j]? = some p) : ((l.flatMap cellsOf24).drop (j * 5)).take 5 = cellsOf24 p := by
 apply List.ext_getElem?
 intro i
 rcases Nat.lt_or_ge i 5 with hi | hi
 ·rw [List.getElem?_take_of_lt hi, List.getElem?_drop, row24_at, show (j * 5 + i) / 5 = j by omega, show (j * 5 + i) % 5 = i by omega, h]; rfl
 ·rw [List.getElem?_eq_none (by rw [List.length_take]; omega), List.getElem?_eq_none (by exact hi)]
theorem row24_one (l : List S24) : ∀ u ∈ l.flatMap cellsOf24, u.oneCell' = true := by
 intro u hu
 obtain ⟨x, _, hx⟩ := List.mem_flatMap.1 hu
 simp only [cellsOf24, List.mem_cons, List.not_mem_nil, or_false] at hx
 rcases hx with rfl | rfl | rfl | rfl | rfl <;> rfl
set_option maxHeartbeats 4000000 in
set_option maxRecDepth 100000 in
theorem step_Step.calls (A0 : Option Addr) (c0 : Nat) (l0 r1 : List S24) (w : World) (hr0 : Kd.C k24 w A0 l0.length l0) (hc0 : l0.length ≤ c0) (h : step_Step.f l0 = some r1) :
  Calls Tryd.prog 53 #[.slice A0 l0.length c0] w fun e w' => ∃ v0_ : Value, e = .returned v0_ ∧ Kd.R k24 24 w' w.heap.size (fun _ => True) v0_ r1 ∧ Below w.heap.size w w' := by
 unfold step_Step.f at h
 split at h
 case isFalse => cases h
 rename_i hn
 cases h
 have q22 : ∀ (w : World) (a : Option Addr) (n c n' c' : Nat), (binOp .eql 29 (.slice a n c) (.slice none n' c')).run Tryd.prog w = .ok (.bool a.isNone) w := fun w a n c n' c' => Lib.run_eql_slice_nil w _ _ a n c n' c' Tryd.underlying29
 cases A0 with
 | none =>
  have hl : l0 = [] := by
   rcases Nat.eq_zero_or_pos l0.length with h0 | h0
   ·exact List.eq_nil_of_length_eq_zero h0
   ·obtain ⟨ad, e, _⟩ := hr0.2.2 h0
    cases e
  subst hl
  clear hr0
  go_enter Tryd.func53, Tryd.ntmps53
  go_wp2
  go_ret
  exact ⟨_, rfl, Kd.R_nil _ _ _ _ _, Below.refl _ _⟩
 | some ad =>
  have hcell : Ax (∀ j u, (l0.flatMap cellsOf24)[j]? = some u → w.cell? (ad.add j) = some u) := ⟨by
   intro m u hm
   rw [row24_at] at hm
   obtain ⟨p, hp, hu⟩ := Option.bind_eq_some_iff.1 hm
   have hpos : 0 < l0.length := by
    rcases Nat.eq_zero_or_pos l0.length with h0 | h0
    ·rw [List.eq_nil_of_length_eq_zero h0] at hp; simp at hp
    ·exact h0
   obtain ⟨ad', e, hc⟩ := hr0.2.2 hpos
   cases e
   obtain ⟨c, _, hK, hcell⟩ := hc _ p hp
   obtain rfl := k24_open hK
   have h2 := hcell (m % 5) u hu
   rw [show k24.sz = 5 from rfl, show m / 5 * 5 + m % 5 = m by omega] at h2
   exact h2⟩
  clear hr0
  obtain ⟨i0, hi, hz⟩ := Option.map_eq_some_iff.1 info24
  simp only [Prod.mk.injEq] at hz
  obtain ⟨hz0, hz1, hz2⟩ := hz
  go_enter Tryd.func53, Tryd.ntmps53
  go_wp2_with (at_builtin; refine wpList_append_own _ rfl _ _ 29 rfl w.heap.size 24 i0 _ 5 48 Tryd.underlying29 hi hz0 hz1 hz2 rfl (by omega) _ _ _ rfl (World.ownsRow_made w #[] 0 (Nat.le_refl _) (Nat.zero_le _) (by simp)) ad l0.length c0 (l0.flatMap cellsOf24) rfl ?qc1 ?qc2 ?qc3 ?qc4 ?qc5 ?qc6 ?_)
  case qc1 => exact row24_len l0
  case qc2 =>
   intro j u hj
   exact Lib.cell?_alloc_some _ (hcell.out j u hj)
  case qc3 => exact row24_one l0
  case qc4 => rw [Nat.zero_add]; unfold maxLen; omega
  case qc5 => rw [Nat.zero_add]; omega
  case qc6 => simp
  intro v' w1 hown hgrow hnil
  go_wp2
  go_ret
  refine ⟨v', rfl, ⟨fun _ _ => trivial, l0.flatMap cellsOf24, (show w1.ownsRow w.heap.size 24 5 v' l0.length (l0.flatMap cellsOf24) from by simpa using hown), ⟨row24_len l0, fun j p hj => ?_⟩⟩, ?_⟩
  ·rw [show k24.sz = 5 from rfl, row24_take l0 j p hj]
   exact k24_mkM _ _ _ p
  ·exact ((Below.refl _ w).alloc (Nat.le_refl _) _).grown hgrow (by simp) (by intro k hk; simp [Value.ownBlock] at hk; omega)
def idxOf {α : Type} (p : α → Bool) (l : List α) : Int := if l.any p = true then ((l.takeWhile (fun x => !p x)).length : Int) else -1
theorem idx_hit {α : Type} (p : α → Bool) : ∀ (l : List α) (j : Nat) (x : α), (l.take j).any p = false → l[j]? = some x → p x = true → idxOf p l = (j : Int)
 | [], _, _, _, h, _ => by simp at h
 | y :: l, 0, x, _, h, hp => by
  simp at h; subst h
  unfold idxOf
  simp [hp]
 | y :: l, j + 1, x, ht, h, hp => by
  rw [List.take_succ_cons, List.any_cons, Bool.or_eq_false_iff] at ht
  have ih := idx_hit p l j x ht.2 (by simpa using h) hp
  have hany : l.any p = true := List.any_eq_true.2 ⟨x, List.mem_of_getElem? (by simpa using h), hp⟩
  unfold idxOf at ih ⊢
  rw [if_pos hany] at ih
  rw [List.any_cons, hany, Bool.or_true, if_pos rfl, List.takeWhile_cons, if_pos (by simp [ht.1]), List.length_cons]
  omega
theorem idx_miss {α : Type} (p : α → Bool) (l : List α) (h : l.any p = false) : idxOf p l = -1 := by unfold idxOf; rw [h]; rfl
theorem idx_nonneg {α : Type} (p : α → Bool) (l : List α) : decide (0 ≤ idxOf p l) = l.any p := by
 unfold idxOf
 cases l.any p
 ·rfl
 ·rw [if_pos rfl]; exact decide_eq_true (by omega)
theorem any_take_succ {α : Type} (p : α → Bool) (l : List α) (j : Nat) (x : α) (h : l[j]? = some x) (h0 : (l.take j).any p = false) (h1 : p x = false) : (l.take (j + 1)).any p = false := by
 rw [List.take_add_one, h, List.any_append, h0]
 simp [h1]
def isCommit (x : S24) : Bool := x.f0 == 8
def step_Step_contains.f (l : List S24) : Option Bool := if l.length ≤ 1000000000000 then some (l.any isCommit) else none
set_option maxHeartbeats 4000000 in
set_option maxRecDepth 100000 in
theorem step_Step_contains.pred (x : S24) (w : World) : Calls Tryd.prog 80 #[.agg #[.int .i64 x.f0, .int .i64 x.f1, .int .i64 x.f2, .int .u64 x.f3, .string x.f4]] w fun e w' => e = .returned (.bool (isCommit x)) ∧ Below w.heap.size w w' := by
 show Calls Tryd.prog 80 _ w fun e w' => e = .returned (.bool (x.f0 == 8)) ∧ Below w.heap.size w w'
 go_enter Tryd.func80, Tryd.ntmps80
 go_wp2
 go_ret
 exact ⟨rfl, below_alloc (Below.refl _ _) _⟩
set_option maxHeartbeats 4000000 in
set_option maxRecDepth 100000 in
theorem step_Step_contains.idx (A0 : Option Addr) (c0 : Nat) (l0 : List S24) (w : World) (hr0 : Kd.C k24 w A0 l0.length l0) (hn : l0.length ≤ 1000000000000) :
  Calls Tryd.prog 84 #[.slice A0 l0.length c0, .func (.func 80) #[] #[]] w fun e w' => e = .returned (.int .i64 (idxOf isCommit l0)) ∧ Below w.heap.size w w' := by
 have HR := Ax.mk hr0
 clear hr0
 go_enter Tryd.func84, Tryd.ntmps84
 go_wp2
 go_loopw [5, 8] (fun _ v8 wr => ∃ j : Nat, v8 = .int .i64 (j : Int) ∧ j ≤ l0.length ∧ Ax ((l0.take j).any isCommit = false) ∧ Ax (Below w.heap.size w wr)) (fun _ v8 _ => l0.length - (intOf v8).toNat)
 case atStart => exact ⟨0, rfl, Nat.zero_le _, ⟨by simp⟩, ⟨Below.refl _ _⟩⟩
 case round =>
  obtain ⟨j, rfl, hj, HA, HB⟩ := hrel
  by_cases hlt : j < l0.length
  ·obtain ⟨ad, rfl, hx0, hx1, hx2, hx3, hx4⟩ := at_T24 HR.out (j : Int) (by omega) (by omega)
   have HX := Ax.mk (show l0[j]? = some (rd_T24 l0 (j : Int)) by unfold rd_T24; simp [List.getD, hlt])
   simp only [Int.toNat_natCast] at hx0 hx1 hx2 hx3 hx4
   replace hx0 := (HB.out.cell (World.block_lt_of_cell? w _ hx0)).trans hx0
   replace hx1 := (HB.out.cell (World.block_lt_of_cell? w _ hx1)).trans hx1
   replace hx2 := (HB.out.cell (World.block_lt_of_cell? w _ hx2)).trans hx2
   replace hx3 := (HB.out.cell (World.block_lt_of_cell? w _ hx3)).trans hx3
   replace hx4 := (HB.out.cell (World.block_lt_of_cell? w _ hx4)).trans hx4
   generalize rd_T24 l0 (j : Int) = x at HX hx0 hx1 hx2 hx3 hx4
   have hp := step_Step_contains.pred x
   cases hq : isCommit x with
   | true =>
    rw [hq] at hp
    have HQ := Ax.mk hq
    clear hq
    go_wp2_with (first | (go_at_call 80; fail))
    refine (hp _).mono ?_
    rintro e w1 ⟨rfl, hb1⟩
    go_wp2
    go_ret
    exact ⟨congrArg (fun z => Ending.returned (.int .i64 z)) (idx_hit isCommit l0 j x HA.out HX.out HQ.out).symm, bP HB.out hb1⟩
   | false =>
    rw [hq] at hp
    have HQ := Ax.mk hq
    clear hq
    go_wp2_with (first | (go_at_call 80; fail))
    refine (hp _).mono ?_
    rintro e w1 ⟨rfl, hb1⟩
    have HB1 := Ax.mk (bP HB.out hb1)
    clear hb1
    go_wp2
    go_roundw
    case rel => exact ⟨j + 1, by go_num, by omega, ⟨any_take_succ isCommit l0 j x HX.out HA.out HQ.out⟩, HB1⟩
    case measure => simp [intOf]; omega
  ·obtain rfl : j = l0.length := by omega
   go_wp2
   go_ret
   exact ⟨congrArg (fun z => Ending.returned (.int .i64 z)) (idx_miss isCommit l0 (by have h := HA.out; rwa [List.take_length] at h)).symm, HB.out⟩
set_option maxHeartbeats 4000000 in
set_option maxRecDepth 100000 in
theorem step_Step_contains.calls (A0 : Option Addr) (c0 : Nat) (l0 : List S24) (r : Bool) (w : World) (hr0 : Kd.C k24 w A0 l0.length l0) (_hc0 : l0.length ≤ c0) (h : step_Step_contains.f l0 = some r) :
  Calls Tryd.prog 79 #[.slice A0 l0.length c0, .func (.func 80) #[] #[]] w fun e w' => e = .returned (.bool r) ∧ Below w.heap.size w w' := by
 unfold step_Step_contains.f at h
 split at h
 case isFalse => cases h
 rename_i hlen
 cases h
 rw [← idx_nonneg]
 have hi := step_Step_contains.idx A0 c0 l0 w hr0 hlen
 generalize idxOf isCommit l0 = r at hi
 clear hr0
 go_enter Tryd.func79, Tryd.ntmps79
 go_wp2_with (go_at_call 84; refine hi.mono ?_; rintro e w' ⟨rfl, hb⟩)
 go_ret
 exact ⟨rfl, hb⟩
def journal_put.g (k : Nat) : List S24 → ByteArray → Option (ByteArray × Int)
 | [], acc => some (acc, 0)
 | x :: r, acc => (step_Put.f k x.f0 x.f1 x.f2 x.f3 x.f4).bind fun t => if t.2 = 0 then (if acc.size + t.1.size ≤ 100000000000 then journal_put.g k r (acc ++ t.1) else none) else some (⟨#[]⟩, 1)
def journal_put.f (k : Nat) (l : List S24) : Option (ByteArray × Int) := if l.length ≤ 2000000000 then journal_put.g k l ⟨#[]⟩ else none
theorem journal_put.mono_g : ∀ (l : List S24) (acc : ByteArray) (k : Nat), LeO (journal_put.g k l acc) (journal_put.g (k + 1) l acc)
 | [], _, _ => LeO.refl _
 | x :: r, acc, k => by
  unfold journal_put.g
  refine LeO.bind (step_Put.mono _ _ _ _ _ _) (fun t => ?_)
  refine LeO.ite ?_ (LeO.refl _)
  exact LeO.ite (journal_put.mono_g r _ k) (LeO.refl _)
theorem journal_put.mono : ∀ a0 k, LeO (journal_put.f k a0) (journal_put.f (k + 1) a0) := fun a0 k => LeO.ite (journal_put.mono_g a0 _ k) (LeO.refl _)
theorem jp_builder_below {T e : TypeId} {B b : Nat} {bs : List Value} {w w1 : World} (h : Lib.IsBuilderF T e B b bs w) (hb : Below w.heap.size w w1) : Lib.IsBuilderF T e B b bs w1 := by
 have key : ∀ p, Lib.BuilderAtF T e B b p bs w → Lib.BuilderAtF T e B b p bs w1 := by
  rintro p ⟨hB, v, hv, ⟨hl, hown⟩, hne⟩
  have hlt : b < w.heap.size := (Array.getElem?_eq_some_iff.1 hv).1
  refine ⟨hB, v, (hb.block b hlt).trans hv, ⟨hl, ?_⟩, hne⟩
  rcases hown with hn | ⟨g, cap, cur, fz, h1, h2, h3, h4⟩
  ·exact Or.inl hn
  ·exact Or.inr ⟨g, cap, cur, fz, h1, h2, (hb.block g (Array.getElem?_eq_some_iff.1 h3).1).trans h3, h4⟩
 exact h.elim (fun x => .inl (key _ x)) (fun x => .inr (key _ x))
def JpB (w wr : World) (acc : ByteArray) : Prop := Lib.IsBuilderF 132 5 w.heap.size w.heap.size (Lib.byteCells acc.data.toList) wr
theorem jp_start (w : World) : JpB w (w.alloc (.cells #[.pointer none, .slice none 0 0] 132)) ⟨#[]⟩ := Lib.IsBuilderF.of (Lib.fresh_isBuilder 132 5 w)
theorem jp_below {w wr w1 : World} {acc : ByteArray} (h : JpB w wr acc) (hb : Below wr.heap.size wr w1) : JpB w w1 acc := jp_builder_below h hb
theorem jp_cells (acc t : ByteArray) : Lib.byteCells acc.data.toList ++ Lib.strCells t = Lib.byteCells (acc ++ t).data.toList := by
 rw [Lib.strCells_eq, ← Lib.byteCells_append]
 simp [ByteArray.data_append]
theorem jp_write {w wr : World} {acc t : ByteArray} (h : JpB w wr acc) (hl : acc.size + t.size ≤ 100000000000) (hs : w.heap.size ≤ wr.heap.size) :
  Calls Tryd.prog 85 #[.pointer (some ⟨w.heap.size, 0, none⟩), .string t] wr fun e w' => e = .returned (.tuple #[.int .i64 t.size, .nilIface]) ∧ JpB w w' (acc ++ t) ∧ Below w.heap.size wr w' := by
 refine (Sh.Builder_WriteString_k w.heap.size w.heap.size _ t wr h (by rw [Lib.byteCells_length]; have : acc.data.toList.length = acc.size := Array.length_toList; omega) hs).mono ?_
 rintro e w' ⟨rfl, hI, hb, _⟩
 refine ⟨rfl, ?_, hb⟩
 rw [jp_cells] at hI
 exact .inr hI
theorem jp_read {w wr : World} {acc : ByteArray} (h : JpB w wr acc) (hs : w.heap.size ≤ wr.heap.size) :
  Calls Tryd.prog 86 #[.pointer (some ⟨w.heap.size, 0, none⟩)] wr fun e w' => e = .returned (.string acc) ∧ Below w.heap.size wr w' := by
 refine (Sh.Builder_String_any_k w.heap.size w.heap.size acc.data.toList wr h hs).mono ?_
 rintro e w' ⟨rfl, _, hb, _⟩
 exact ⟨by cases acc; rfl, hb⟩
theorem rd_cons24 (l : List S24) (j : Nat) (h : j < l.length) : l.drop j = rd_T24 l (j : Int) :: l.drop (j + 1) := by
 rw [List.drop_eq_getElem_cons h]
 congr 1
 unfold rd_T24
 simp [List.getD, h]
set_option maxHeartbeats 4000000 in
set_option maxRecDepth 100000 in
theorem journal_put.calls (k : Nat) (A0 : Option Addr) (c0 : Nat) (l0 : List S24) (r1 : ByteArray) (r2 : Int) (w : World) (hr0 : Kd.C k24 w A0 l0.length l0) (hc0 : l0.length ≤ c0) (h : journal_put.f k l0 = some (r1, r2)) (HT : Tabs w) :
  Calls Tryd.prog 81 #[.slice A0 l0.length c0] w fun e w' => e = .returned (.tuple #[.string r1, .int .i64 r2]) ∧ Below w.heap.size w w' := by
 have HR := Ax.mk hr0
 have HW := Ax.mk HT
 unfold journal_put.f at h
 split at h
 case isFalse => cases h
 rename_i hlen
 have H0 := Ax.mk h
 clear hr0 HT h hc0
 go_enter Tryd.func81, Tryd.ntmps81
 go_wp2
 go_loopw [11] (fun v11 wr => ∃ (j : Nat) (acc : ByteArray), v11 = .int .i64 (j : Int) ∧ j ≤ l0.length ∧ Ax (journal_put.g k (l0.drop j) acc = some (r1, r2)) ∧ Ax (acc.size ≤ 100000000000) ∧ Ax (JpB w wr acc) ∧ Ax (Below w.heap.size w wr)) (fun v11 _ => l0.length - (intOf v11).toNat)
 case atStart => exact ⟨0, ⟨#[]⟩, rfl, Nat.zero_le _, ⟨H0.out⟩, ⟨by decide⟩, ⟨jp_start w⟩, ⟨below_alloc (Below.refl _ _) _⟩⟩
 case round =>
  obtain ⟨j, acc, rfl, hj, HG, HS, HI, HB⟩ := hrel
  by_cases hlt : j < l0.length
  ·obtain ⟨ad, rfl, hx0, hx1, hx2, hx3, hx4⟩ := at_T24 HR.out (j : Int) (by omega) (by omega)
   have hG := HG.out
   rw [rd_cons24 l0 j hlt, journal_put.g] at hG
   clear HG
   replace hG := Option.bind_eq_some_iff.1 hG
   obtain ⟨⟨t, q⟩, hp, hG⟩ := hG
   simp only [Int.toNat_natCast] at hx0 hx1 hx2 hx3 hx4
   replace hx0 := (HB.out.cell (World.block_lt_of_cell? w _ hx0)).trans hx0
   replace hx1 := (HB.out.cell (World.block_lt_of_cell? w _ hx1)).trans hx1
   replace hx2 := (HB.out.cell (World.block_lt_of_cell? w _ hx2)).trans hx2
   replace hx3 := (HB.out.cell (World.block_lt_of_cell? w _ hx3)).trans hx3
   replace hx4 := (HB.out.cell (World.block_lt_of_cell? w _ hx4)).trans hx4
   generalize rd_T24 l0 (j : Int) = x at hp hx0 hx1 hx2 hx3 hx4
   have HP := Ax.mk hp
   have HG := Ax.mk hG
   clear hp hG
   go_wp2_with (first | (go_at_call 19; fail))
   refine (step_Put.calls k x.f0 x.f1 x.f2 x.f3 x.f4 t q _ HP.out (HW.out.below (below_alloc HB.out _))).mono ?_
   rintro e w1 ⟨rfl, hb1⟩
   have HB1 := Ax.mk (bP (below_alloc HB.out _) hb1)
   have HI1 := Ax.mk (jp_below HI.out (bP (below_alloc (Below.refl _ wr) _) hb1))
   clear hb1 HI hx0 hx1 hx2 hx3 hx4 HP
   by_cases hq : q = 0
   ·subst hq
    have hG := HG.out
    clear HG
    rw [if_pos rfl] at hG
    by_cases hle : acc.size + t.size ≤ 100000000000
    ·rw [if_pos hle] at hG
     have HG := Ax.mk hG
     have HL := Ax.mk hle
     clear hG hle
     go_wp2_with (first | (go_at_call 85; fail))
     refine (jp_write HI1.out HL.out HB1.out.size).mono ?_
     rintro e w2 ⟨rfl, hI2, hb2⟩
     have HI2 := Ax.mk hI2
     have HB2 := Ax.mk (HB1.out.trans hb2)
     clear hI2 hb2 HI1 HB1
     go_wp2
     go_roundw
     case rel => exact ⟨j + 1, acc ++ t, by go_num, by omega, HG, ⟨by rw [ByteArray.size_append]; exact HL.out⟩, HI2, HB2⟩
     case measure => simp [intOf]; omega
    ·rw [if_neg hle] at hG
     cases hG
   ·have hG := HG.out
    rw [if_neg hq] at hG
    cases hG
    have c1 : (q == 0) = false := by simpa using hq
    have c2 : (q != 0) = true := by simpa using hq
    have HQ := Ax.mk hq
    clear HG hq
    go_wp2
    go_ret2
    exact ⟨rfl, HB1.out⟩
  ·obtain rfl : j = l0.length := by omega
   have hG := HG.out
   rw [List.drop_length, journal_put.g] at hG
   cases hG
   clear HG
   go_wp2_with (first | (go_at_call 86; fail))
   refine (jp_read HI.out HB.out.size).mono ?_
   rintro e w2 ⟨rfl, hb2⟩
   have HB2 := Ax.mk (HB.out.trans hb2)
   clear hb2
   go_wp2
   go_ret2
   exact ⟨rfl, HB2.out⟩
def journal_closed.f (k : Nat) (a0_0 : Int) (l0_1 : List (S24)) : Option (ByteArray × Int) := (step_Step_contains.f l0_1).bind fun t122 => (if t122 = true then (some ((⟨#[]⟩ : ByteArray), 1)) else ((step_Step.f l0_1).bind fun t123 => ((some (([(⟨8, 0, 0, a0_0, (⟨#[]⟩ : ByteArray)⟩ : S24)] : List (S24)) : List (S24))).bind fun y126 => (if t123.length + y126.length < 2932031007402 then ((journal_put.f k (t123 ++ y126)).bind fun bt132 => (some (bt132.1, bt132.2))) else (none)))))
theorem journal_closed.mono : ∀ a0 a1 k, LeO (journal_closed.f k a0 a1) (journal_closed.f (k + 1) a0 a1) := by
 intro a0 a1 k
 unfold journal_closed.f
 repeat' first
   | (with_reducible exact journal_put.mono _ _)
   | (with_reducible exact LeO.refl _)
   | (with_reducible exact LeO.none _)
   | (with_reducible refine LeO.ite ?_ ?_)
   | (with_reducible refine LeO.bind ?_ (fun _ => ?_))
   | exact journal_put.mono _ _
   | exact LeO.none _
   | refine LeO.ite ?_ ?_
   | refine LeO.bind ?_ (fun _ => ?_)
def journal_closed.T3 : Bool × List (List Nat × List Nat) := (true, [([], []), ([0], [0]), ([1], [1]), ([], []), ([3], [3]), ([4], [4]), ([5], [5]), ([2, 6, 2], [2, 6]), ([7, 7], [7]), ([8], [8]), ([8], [8]), ([9, 8, 0, 1, 2, 3, 4, 5, 6, 7, 8, 9, 10], [9]), ([10, 11, 0, 1, 2, 3, 4, 5, 6, 7, 8, 9, 10, 11], [10])])
def journal_closed.B3 : List Nat := [0, 1, 3, 0, 8, 24, 56, 127, 255, 511, 511, 2047, 4095]
theorem journal_closed.tab3 : rtab .any (opsOf Tryd.f74 3) = journal_closed.T3 := by kernel_rfl
theorem journal_closed.bits3 : waitsOk journal_closed.T3.2 journal_closed.B3 = true := by kernel_rfl
set_option maxHeartbeats 8000000 in
set_option maxRecDepth 100000 in
theorem journal_closed.calls (k : Nat) (a0_0 : Int) (A0_1 : Option Addr) (c0_1 : Nat) (l0_1 : List (S24)) (r1 : ByteArray) (r2 : Int) (w : World) (hr0_1 : Kd.C k24 w A0_1 l0_1.length l0_1) (hc0_1 : l0_1.length ≤ c0_1) (h : journal_closed.f k a0_0 l0_1 = some (r1, r2)) (HT : Tabs w) :
  Calls Tryd.prog 74 #[.agg #[.int .u64 a0_0, .slice A0_1 l0_1.length c0_1]] w fun e w' => e = .returned (.tuple #[.string r1, .int .i64 r2]) ∧ Below w.heap.size w w' := by
 have hu44 := Tryd.underlying44
 have hu24 := Tryd.underlying24
 have HR0_1 := Ax.mk hr0_1
 have HC0_1 := Ax.mk hc0_1
 clear hr0_1 hc0_1
 have HB := Ax.mk (Below.refl w.heap.size w)
 have H : ((step_Step_contains.f l0_1).bind fun t122 => (if t122 = true then (some ((⟨#[]⟩ : ByteArray), 1)) else ((step_Step.f l0_1).bind fun t123 => ((some (([(⟨8, 0, 0, a0_0, (⟨#[]⟩ : ByteArray)⟩ : S24)] : List (S24)) : List (S24))).bind fun y126 => (if t123.length + y126.length < 2932031007402 then ((journal_put.f k (t123 ++ y126)).bind fun bt132 => (some (bt132.1, bt132.2))) else (none)))))) = some (r1, r2) := h
 clear h
 replace H := Option.bind_eq_some_iff.mp H
 obtain ⟨t122, A20, H⟩ := H
 replace H : (if t122 = true then (some ((⟨#[]⟩ : ByteArray), 1)) else ((step_Step.f l0_1).bind fun t123 => ((some (([(⟨8, 0, 0, a0_0, (⟨#[]⟩ : ByteArray)⟩ : S24)] : List (S24)) : List (S24))).bind fun y126 => (if t123.length + y126.length < 2932031007402 then ((journal_put.f k (t123 ++ y126)).bind fun bt132 => (some (bt132.1, bt132.2))) else (none))))) = some (r1, r2) := H
 have A2 := Ax.mk A20
 clear A20
 by_cases c3 : t122 = true
 ·subst c3
  have H1 : (some ((⟨#[]⟩ : ByteArray), 1)) = some (r1, r2) := by rw [if_pos rfl] at H; exact H
  clear H
  have H := H1
  clear H1
  simp only [Option.some.injEq, Prod.mk.injEq] at H
  obtain ⟨rfl, rfl⟩ := H
  go_enter Tryd.func74, Tryd.ntmps74
  go_wp2_with (first | ((with_reducible refine gate_dst (N := 1) rfl ?_); refine box_event ?hg (N := 1) ?hd (cs := #[.int .u64 a0_0, .slice A0_1 l0_1.length c0_1]) (t := 44) ?hr ?_; (case hd => rfl); (case hg => rfl); (case hr => first | (go_simp; done) | (go_simp; rfl)); intro gb121 hg w4 hbox hb; have n0_ := Ax.mk (bP bA hb); have n1_ := Ax.mk (hbox); have n2_ := Ax.mk ((ge_new hg : w.heap.size ≤ gb121)); have n3_ := n2_; clear HB; have HB := n0_; have BK121 := n1_; have GW121 := n2_; have GE121 := n3_; clear n0_ n1_ n2_ n3_; clear hb hbox hg; have hcz5_0 : w4.cell? ⟨gb121, 0, none⟩ = some (.int .u64 a0_0) := (bC BK121.out 0).trans rfl; have hcz5_1 : w4.cell? ⟨gb121, 1, none⟩ = some (.slice A0_1 l0_1.length c0_1) := (bC BK121.out 1).trans rfl; have hfz5_0 := bF BK121.out 0; have hfz5_1 := bF BK121.out 1) | ((with_reducible refine gate_callee (f := 79) rfl ?_); refine goesL_ (some 6) rfl rfl Tryd.func79 (by kernel_rfl) rfl #[.slice A0_1 l0_1.length c0_1, .func (.func 80) #[] #[]] rfl (by (try simp only [List.map_toArray, List.map_cons, List.map_nil]); first | done | rfl | (simp only [List.length_drop, List.length_take]; rfl) | (rw [wrap_sum2 (by assumption)]; rfl)) ?_; (with_reducible refine (step_Step_contains.calls _ _ l0_1 true _ ?side1 ?side2 A2.out).mono ?_); (case side1 => repeat (first | exact (Kd.C_below HR0_1.out HB.out) | (with_reducible refine Kd.C_alloc ?_ _) | (with_reducible refine Kd.C_drewN ?_ _) | (with_reducible refine Kd.C_drew ?_))); (case side2 => exact HC0_1.out); rintro e w6 ⟨rfl, hb⟩; refine ⟨_, rfl, ?_⟩; have n0_ := Ax.mk (bB (bT BK121.out) hb); have n1_ := Ax.mk (bP bA hb); clear BK121; clear HB; have BK121 := n0_; have HB := n1_; clear n0_ n1_; (try clear hb); (try clear hb2); (try clear hk); (try clear hi)))
  go_ret2
  exact ⟨by first | rfl | (simp [errW_none, errW_some] <;> rfl) | (simp [*, errW_none, errW_some] <;> rfl), bA⟩
 ·replace c3 := Bool.eq_false_iff.mpr c3
  subst c3
  have H1 : ((step_Step.f l0_1).bind fun t123 => ((some (([(⟨8, 0, 0, a0_0, (⟨#[]⟩ : ByteArray)⟩ : S24)] : List (S24)) : List (S24))).bind fun y126 => (if t123.length + y126.length < 2932031007402 then ((journal_put.f k (t123 ++ y126)).bind fun bt132 => (some (bt132.1, bt132.2))) else (none)))) = some (r1, r2) := by rw [if_neg (show ¬ (false = true) by decide)] at H; exact H
  clear H
  have H := H1
  clear H1
  replace H := Option.bind_eq_some_iff.mp H
  obtain ⟨t123, A70, H⟩ := H
  replace H : ((some (([(⟨8, 0, 0, a0_0, (⟨#[]⟩ : ByteArray)⟩ : S24)] : List (S24)) : List (S24))).bind fun y126 => (if t123.length + y126.length < 2932031007402 then ((journal_put.f k (t123 ++ y126)).bind fun bt132 => (some (bt132.1, bt132.2))) else (none))) = some (r1, r2) := H
  have A7 := Ax.mk A70
  clear A70
  obtain ⟨y126, hy126⟩ : ∃ y_ : List (S24), y_ = (([(⟨8, 0, 0, a0_0, (⟨#[]⟩ : ByteArray)⟩ : S24)] : List (S24))) := ⟨_, rfl⟩
  replace H : (if t123.length + y126.length < 2932031007402 then ((journal_put.f k (t123 ++ y126)).bind fun bt132 => (some (bt132.1, bt132.2))) else (none)) = some (r1, r2) := by first | (rw [hy126]; with_reducible exact H) | (have H2_ := (Option.bind_some _ _).symm.trans H; rw [hy126]; with_reducible exact H2_) | (have H2_ := (Option.bind_some _ _).symm.trans H; with_reducible exact H2_) | with_reducible exact H | (rw [hy126]; exact H) | exact H
  have Ny126 := Ax.mk hy126
  clear hy126
  by_cases c8 : t123.length + y126.length < 2932031007402
  ·rw [if_pos c8] at H
   have LMc8 := Ax.mk c8
   clear c8
   obtain ⟨y129, hy129⟩ : ∃ y_ : List (S24), y_ = (t123 ++ y126) := ⟨_, rfl⟩
   replace H : ((journal_put.f k y129).bind fun bt132 => (some (bt132.1, bt132.2))) = some (r1, r2) := by first | (rw [hy129]; with_reducible exact H) | (have H2_ := (Option.bind_some _ _).symm.trans H; rw [hy129]; with_reducible exact H2_) | (have H2_ := (Option.bind_some _ _).symm.trans H; with_reducible exact H2_) | with_reducible exact H | (rw [hy129]; exact H) | exact H
   have Ny129 := Ax.mk hy129
   clear hy129
   replace H := Option.bind_eq_some_iff.mp H
   obtain ⟨⟨t132, t133⟩, A90, H⟩ := H
   replace H : (some (t132, t133)) = some (r1, r2) := H
   have A9 := Ax.mk A90
   clear A90
   simp only [Option.some.injEq, Prod.mk.injEq] at H
   obtain ⟨rfl, rfl⟩ := H
   go_enter Tryd.func74, Tryd.ntmps74
   try go_wp2_with (first | ((with_reducible refine gate_dst (N := 1) rfl ?_); refine box_event ?hg (N := 1) ?hd (cs := #[.int .u64 a0_0, .slice A0_1 l0_1.length c0_1]) (t := 44) ?hr ?_; (case hd => rfl); (case hg => rfl); (case hr => first | (go_simp; done) | (go_simp; rfl)); intro gb121 hg w10 hbox hb; have n0_ := Ax.mk (bP bA hb); have n1_ := Ax.mk (hbox); have n2_ := Ax.mk ((ge_new hg : w.heap.size ≤ gb121)); have n3_ := n2_; clear HB; have HB := n0_; have BK121 := n1_; have GW121 := n2_; have GE121 := n3_; clear n0_ n1_ n2_ n3_; clear hb hbox hg; have hcz11_0 : w10.cell? ⟨gb121, 0, none⟩ = some (.int .u64 a0_0) := (bC BK121.out 0).trans rfl; have hcz11_1 : w10.cell? ⟨gb121, 1, none⟩ = some (.slice A0_1 l0_1.length c0_1) := (bC BK121.out 1).trans rfl; have hfz11_0 := bF BK121.out 0; have hfz11_1 := bF BK121.out 1) | ((with_reducible refine gate_callee (f := 79) rfl ?_); refine goesL_ (some 6) rfl rfl Tryd.func79 (by kernel_rfl) rfl #[.slice A0_1 l0_1.length c0_1, .func (.func 80) #[] #[]] rfl (by (try simp only [List.map_toArray, List.map_cons, List.map_nil]); first | done | rfl | (simp only [List.length_drop, List.length_take]; rfl) | (rw [wrap_sum2 (by assumption)]; rfl)) ?_; (with_reducible refine (step_Step_contains.calls _ _ l0_1 false _ ?side1 ?side2 A2.out).mono ?_); (case side1 => repeat (first | exact (Kd.C_below HR0_1.out HB.out) | (with_reducible refine Kd.C_alloc ?_ _) | (with_reducible refine Kd.C_drewN ?_ _) | (with_reducible refine Kd.C_drew ?_))); (case side2 => exact HC0_1.out); rintro e w12 ⟨rfl, hb⟩; refine ⟨_, rfl, ?_⟩; have n0_ := Ax.mk (bB (bT BK121.out) hb); have n1_ := Ax.mk (bP bA hb); clear BK121; clear HB; have BK121 := n0_; have HB := n1_; clear n0_ n1_; (try clear hb); (try clear hb2); (try clear hk); (try clear hi)))
   have n0_ := Ax.mk (blk_drew BK121.out)
   have n1_ := Ax.mk (below_drew1 HB.out)
   clear BK121
   clear HB
   have BK121 := n0_
   have HB := n1_
   clear n0_ n1_
   refine start_ (n := 13) (S := fun w' => w'.cell? ⟨gb121, 0, none⟩ = some (.int .u64 a0_0) ∧ w'.cell? ⟨gb121, 1, none⟩ = some (.slice A0_1 l0_1.length c0_1)) (ds := []) (TF 0 13) (by kernel_rfl) rfl rfl ⟨(bC BK121.out 0).trans rfl, (bC BK121.out 1).trans rfl⟩ (fun hHeld => ?_); refine with_tabW journal_closed.tab3 journal_closed.bits3 (fun HT_ HW_ => ?_)
   generalize w12.drew = w13 at BK121 HB hHeld ⊢
   refine pure_ (i := 0) (N := some 7) (v := ?_) (a' := ?_) (TF 1 12) rfl rfl (any_of HT_.out (by kernel_rfl)) (fun _ _ _ h => h) (Or.inl ⟨by rfl, ?_⟩) ?_ ?_
   rotate_left; · intro w'; go_simp; with_reducible rfl
   rotate_left; · simp only [Act.put, sI, sZ, sS, i64_w, i32_w]; rfl
   refine pure_ (i := 3) (N := some 10) (v := ?_) (a' := ?_) (BT 13 9) rfl rfl (any_of HT_.out (by kernel_rfl)) (fun _ _ _ h => h) (Or.inl ⟨by rfl, ?_⟩) ?_ ?_
   rotate_left; · intro w'; go_simp; with_reducible rfl
   rotate_left; · simp only [Act.put, sI, sZ, sS, i64_w, i32_w]; rfl
   refine take_ (i := 1) (N := some 8) (v := ?_) (a' := ?_) (BT 13 11) rfl rfl (take_ofW HT_.out HW_.out (by kernel_rfl)) (fun _ _ _ h => h) (Or.inl ⟨by rfl, ?_⟩) hHeld ?_ ?_
   rotate_left
   ·rintro w' ⟨s0, s1⟩
    go_simp
    with_reducible rfl
   rotate_left
   ·simp only [Act.put, sI, sZ, sS, i64_w, i32_w]
    rfl
   refine take_ (i := 4) (N := some 11) (v := ?_) (a' := ?_) (BT 13 27) rfl rfl (take_ofW HT_.out HW_.out (by kernel_rfl)) (fun _ _ _ h => h) (Or.inl ⟨by rfl, ?_⟩) hHeld ?_ ?_
   rotate_left
   ·rintro w' ⟨s0, s1⟩
    go_simp
    with_reducible rfl
   rotate_left
   ·simp only [Act.put, sI, sZ, sS, i64_w, i32_w]
    rfl
   refine pure_ (i := 5) (N := some 12) (v := ?_) (a' := ?_) (BT 13 59) rfl rfl (any_of HT_.out (by kernel_rfl)) (fun _ _ _ h => h) (Or.inl ⟨by rfl, ?_⟩) ?_ ?_
   rotate_left; · intro w'; go_simp; with_reducible rfl
   rotate_left; · simp only [Act.put, sI, sZ, sS, i64_w, i32_w]; rfl
   refine join_ (σ := Value × Value) 6 (TF 7 6) (fun s_ => [(9, s_.1), (13, s_.2)]) (fun s_ w' => (w'.cell? ⟨gb121, 0, none⟩ = some (.int .u64 a0_0) ∧ w'.cell? ⟨gb121, 1, none⟩ = some (.slice A0_1 l0_1.length c0_1)) ∧ (Kd.R k24 24 w' w.heap.size (fun k_ => some k_ ≠ (s_.2 : Value).ownBlock) s_.1 t123) ∧ (Kd.R k24 24 w' w.heap.size (fun k_ => some k_ ≠ (s_.1 : Value).ownBlock) s_.2 y126) ∧ (w'.heap[gb121]? = some (.cells #[.int .u64 a0_0, .slice A0_1 l0_1.length c0_1] 44 (0, 0))) ∧ (Below w.heap.size w w')) ?_ ?_
   rotate_left
   ·intro hCont
    refine two_ (i := 2) (j := 6) (Ni := some 9) (Nj := some 13) (TF 6 7) (BT 13 123) rfl rfl rfl rfl (two_of HT_.out (by kernel_rfl)) (by decide) (by decide) (fun K hK => ?_) (fun K hK => ?_)
    ·skip
     refine goes_ Tryd.func53 (by kernel_rfl) rfl #[.slice A0_1 l0_1.length c0_1] (by rfl) rfl rfl (by (try simp only [List.map_toArray, List.map_cons, List.map_nil]); first | done | rfl | (simp only [List.length_drop, List.length_take]; rfl) | (rw [wrap_sum2 (by assumption)]; rfl)) ?_
     with_reducible refine (step_Step.calls _ _ l0_1 t123 _ ?side1 ?side2 A7.out).mono ?_
     (case side1 => repeat (first | exact (Kd.C_below HR0_1.out HB.out) | (with_reducible refine Kd.C_alloc ?_ _) | (with_reducible refine Kd.C_drewN ?_ _) | (with_reducible refine Kd.C_drew ?_)))
     (case side2 => exact HC0_1.out)
     rintro e w14 ⟨v124, rfl, ho0, hb⟩
     refine ⟨_, rfl, ?_⟩
     have n0_ := Ax.mk (Kd.R_lower ho0 (bS bA))
     have n1_ := Ax.mk (bB (bT BK121.out) hb)
     have n2_ := Ax.mk (bP bA hb)
     clear BK121
     clear HB
     have HO125 := n0_
     have BK121 := n1_
     have HB := n2_
     clear n0_ n1_ n2_
     (try clear hb)
     (try clear hb2)
     (try clear hk)
     (try clear hi)
     (try clear ho0)
     refine hK.out _ _ ⟨(bC BK121.out 0).trans rfl, (bC BK121.out 1).trans rfl⟩ (fun hHeld => ?_)
     clear hK K
     refine norm_ (a' := ?_) ?_ ?_
     rotate_left
     ·show Act.put _ (some 9) _ = _
      simp only [Act.put, sI, sZ, sS, i64_w, i32_w]
      rfl
     refine one_ (i := 6) (N := some 13) (TF 7 6) rfl rfl (one_of HT_.out (by kernel_rfl)) (by decide) (fun K hK => ?_)
     refine Kd.R_lit_step k24 _ 24 ?hg (N := 13) ?hd (xs := ([(⟨8, 0, 0, a0_0, (⟨#[]⟩ : ByteArray)⟩ : S24)] : List (S24))) (inner := [.int .i64 8, .int .i64 0, .int .i64 0, .int .u64 a0_0, .string (⟨#[]⟩ : ByteArray)]) (ok := fun _ => True) (okp := fun _ => True) ?hr ?hp (fun _ hk => hk) trivial (Below.refl _ _) (Nat.le_refl _) (by simp) ?_; (case hd => rfl); (case hg => rfl); (case hr => first | (go_simp; done) | (go_simp; rfl)); (case hp => exact (Reps.c5 (show Kd.M k24 _ _ _ (⟨8, 0, 0, a0_0, (⟨#[]⟩ : ByteArray)⟩ : S24) [.int .i64 8, .int .i64 0, .int .i64 0, .int .u64 a0_0, .string (⟨#[]⟩ : ByteArray)] from (k24_mkM _ _ _ (⟨8, 0, 0, a0_0, (⟨#[]⟩ : ByteArray)⟩ : S24) )) (Reps.none _ _)))
     intro v127 w15 ho16 hb hg_ hnew_
     clear hg_ hnew_
     (first | rw [← Ny126.out] at ho16 | (simp only [Int.reduceToNat] at ho16; rw [← Ny126.out] at ho16))
     have n0_ := Ax.mk (Kd.R_elder' (by exact Kd.R_to HO125.out) (Kd.R_base ho16) hb)
     have n1_ := Ax.mk (Kd.R_lower (Kd.R_new' ho16 (Kd.R_lt (by exact Kd.R_to HO125.out))) (bS bA))
     have n2_ := Ax.mk (bB (bT BK121.out) hb)
     have n3_ := Ax.mk (bP bA hb)
     clear HO125
     clear BK121
     clear HB
     have HO125 := n0_
     have HO128 := n1_
     have BK121 := n2_
     have HB := n3_
     clear n0_ n1_ n2_ n3_
     clear hb ho16
     refine hK.out _ _ ⟨(bC BK121.out 0).trans rfl, (bC BK121.out 1).trans rfl⟩ (fun hHeld => ?_)
     clear hK K
     refine norm_ (a' := ?_) ?_ ?_
     rotate_left
     ·show Act.put _ (some 13) _ = _
      simp only [Act.put, sI, sZ, sS, i64_w, i32_w]
      rfl
     exact norm_ (by simp only [putAll, Act.put, sI, sZ, sS]) (hCont (v124, v127) _ ⟨hHeld, (by apply Kd.R_to; exact Kd.R_mono HO125.out (fun _ hk => hk.2)), (by apply Kd.R_to; exact Kd.R_mono HO128.out (fun _ hk => hk.2)), (bT BK121.out), bA⟩)
    ·skip
     refine Kd.R_lit_step k24 _ 24 ?hg (N := 13) ?hd (xs := ([(⟨8, 0, 0, a0_0, (⟨#[]⟩ : ByteArray)⟩ : S24)] : List (S24))) (inner := [.int .i64 8, .int .i64 0, .int .i64 0, .int .u64 a0_0, .string (⟨#[]⟩ : ByteArray)]) (ok := fun _ => True) (okp := fun _ => True) ?hr ?hp (fun _ hk => hk) trivial (Below.refl _ _) (Nat.le_refl _) (by simp) ?_; (case hd => rfl); (case hg => rfl); (case hr => first | (go_simp; done) | (go_simp; rfl)); (case hp => exact (Reps.c5 (show Kd.M k24 _ _ _ (⟨8, 0, 0, a0_0, (⟨#[]⟩ : ByteArray)⟩ : S24) [.int .i64 8, .int .i64 0, .int .i64 0, .int .u64 a0_0, .string (⟨#[]⟩ : ByteArray)] from (k24_mkM _ _ _ (⟨8, 0, 0, a0_0, (⟨#[]⟩ : ByteArray)⟩ : S24) )) (Reps.none _ _)))
     intro v127 w14 ho15 hb hg_ hnew_
     clear hg_ hnew_
     (first | rw [← Ny126.out] at ho15 | (simp only [Int.reduceToNat] at ho15; rw [← Ny126.out] at ho15))
     have n0_ := Ax.mk (Kd.R_lower ho15 (bS bA))
     have n1_ := Ax.mk (bB (bT BK121.out) hb)
     have n2_ := Ax.mk (bP bA hb)
     clear BK121
     clear HB
     have HO128 := n0_
     have BK121 := n1_
     have HB := n2_
     clear n0_ n1_ n2_
     clear hb ho15
     refine hK.out _ _ ⟨(bC BK121.out 0).trans rfl, (bC BK121.out 1).trans rfl⟩ (fun hHeld => ?_)
     clear hK K
     refine norm_ (a' := ?_) ?_ ?_
     rotate_left
     ·show Act.put _ (some 13) _ = _
      simp only [Act.put, sI, sZ, sS, i64_w, i32_w]
      rfl
     refine one_ (i := 2) (N := some 9) (TF 7 6) rfl rfl (one_of HT_.out (by kernel_rfl)) (by decide) (fun K hK => ?_)
     refine goes_ Tryd.func53 (by kernel_rfl) rfl #[.slice A0_1 l0_1.length c0_1] (by rfl) rfl rfl (by (try simp only [List.map_toArray, List.map_cons, List.map_nil]); first | done | rfl | (simp only [List.length_drop, List.length_take]; rfl) | (rw [wrap_sum2 (by assumption)]; rfl)) ?_
     with_reducible refine (step_Step.calls _ _ l0_1 t123 _ ?side1 ?side2 A7.out).mono ?_
     (case side1 => repeat (first | exact (Kd.C_below HR0_1.out HB.out) | (with_reducible refine Kd.C_alloc ?_ _) | (with_reducible refine Kd.C_drewN ?_ _) | (with_reducible refine Kd.C_drew ?_)))
     (case side2 => exact HC0_1.out)
     rintro e w16 ⟨v124, rfl, ho0, hb⟩
     refine ⟨_, rfl, ?_⟩
     have n0_ := Ax.mk (Kd.R_elder' (by exact Kd.R_to HO128.out) (Kd.R_base ho0) hb)
     have n1_ := Ax.mk (Kd.R_lower (Kd.R_new' ho0 (Kd.R_lt (by exact Kd.R_to HO128.out))) (bS bA))
     have n2_ := Ax.mk (bB (bT BK121.out) hb)
     have n3_ := Ax.mk (bP bA hb)
     clear HO128
     clear BK121
     clear HB
     have HO128 := n0_
     have HO125 := n1_
     have BK121 := n2_
     have HB := n3_
     clear n0_ n1_ n2_ n3_
     (try clear hb)
     (try clear hb2)
     (try clear hk)
     (try clear hi)
     (try clear ho0)
     refine hK.out _ _ ⟨(bC BK121.out 0).trans rfl, (bC BK121.out 1).trans rfl⟩ (fun hHeld => ?_)
     clear hK K
     refine norm_ (a' := ?_) ?_ ?_
     rotate_left
     ·show Act.put _ (some 9) _ = _
      simp only [Act.put, sI, sZ, sS, i64_w, i32_w]
      rfl
     exact norm_ (by simp only [putAll, Act.put, sI, sZ, sS]) (hCont (v124, v127) _ ⟨hHeld, (by apply Kd.R_to; exact Kd.R_mono HO125.out (fun _ hk => hk.2)), (by apply Kd.R_to; exact Kd.R_mono HO128.out (fun _ hk => hk.2)), (bT BK121.out), bA⟩)
   rintro ⟨v124, v127⟩ w17 ⟨hS_, h0_, h1_, h2_, h3_⟩
   have n0_ : Ax (Kd.R k24 24 w17 w.heap.size (fun k_ => some k_ ≠ (v127 : Value).ownBlock) v124 t123) := ⟨h0_⟩
   have n1_ : Ax (Kd.R k24 24 w17 w.heap.size (fun k_ => some k_ ≠ (v124 : Value).ownBlock) v127 y126) := ⟨h1_⟩
   have n2_ : Ax (w17.heap[gb121]? = some (.cells #[.int .u64 a0_0, .slice A0_1 l0_1.length c0_1] 44 (0, 0))) := ⟨h2_⟩
   have n3_ : Ax (Below w.heap.size w w17) := ⟨h3_⟩
   clear BK121
   clear HB
   clear h0_ h1_ h2_ h3_
   have HO125 := n0_
   have HO128 := n1_
   have BK121 := n2_
   have HB := n3_
   clear n0_ n1_ n2_ n3_
   have hHeld : w17.cell? ⟨gb121, 0, none⟩ = some (.int .u64 a0_0) ∧ w17.cell? ⟨gb121, 1, none⟩ = some (.slice A0_1 l0_1.length c0_1) := hS_
   obtain ⟨Ao19, co19, eo19⟩ := Kd.R_slice HO128.out
   (first | subst eo19 | (injection eo19 with f1_ f2_ f3_; have f4_ := f1_.symm; have f5_ := f3_.symm; clear f1_ f2_ f3_; subst f4_; subst f5_))
   refine norm_ (a' := ?_) ?_ ?_
   rotate_left
   ·simp only [putAll, Act.put, sI, sZ, sS]
    rfl
   refine one_ (i := 7) (N := some 14) (TF 8 5) rfl rfl (one_of HT_.out (by kernel_rfl)) (by decide) (fun K hK => ?_)
   refine Kd.R_append_rows_step k24 (w0 := w) w.heap.size (by rfl) (.tmp 9) (.tmp 13) 29 24 (.agg #[(.int .i64 0), (.int .i64 0), (.int .i64 0), (.int .u64 0), (.string ⟨#[]⟩)]) 48 rfl Tryd.underlying29 info24 rfl (by decide) (by omega) v124 t123 y126 _ _ _ (fun k_ => some k_ ≠ (.slice Ao19 y126.length co19 : Value).ownBlock) (fun _ => False) rfl rfl ?aO ?aR (fun _ _ h => h) (fun _ h => h.elim) ?aF ?aB ?aS ?aL ?_
   (case aR => repeat (first | exact (Kd.R_reads' HO128.out).2.2 | (with_reducible refine Kd.C_alloc ?_ _) | (with_reducible refine Kd.C_drewN ?_ _) | (with_reducible refine Kd.C_drew ?_)))
   (case aB => exact bA)
   (case aF => exact (fun k_ hk => Kd.fresh' (Kd.R_lt (by exact Kd.R_to HO128.out)) k_ hk))
   (case aO => exact (by exact Kd.R_to HO125.out))
   (case aS => exact (bS bA))
   (case aL => have := LMc8.out; omega)
   intro v130 w18 ho hb hg hat
   rw [← Ny129.out] at ho
   have n0_ := Ax.mk (blk_grown (g := gb121) (o := .cells #[.int .u64 a0_0, .slice A0_1 l0_1.length c0_1] 44 (0, 0)) (bT BK121.out) hg (Kd.R_ne HO125.out BK121.out (by decide)))
   have n1_ := Ax.mk (Kd.R_after (ok := (fun _ => True)) (by apply Kd.R_to; exact Kd.R_mono HO128.out (fun _ hk => ⟨trivial, hk⟩)) hg hat)
   have n2_ := Ax.mk (hb)
   have n3_ := Ax.mk (ho)
   clear BK121
   clear HO128
   clear HB
   clear HO125
   have BK121 := n0_
   have HO128 := n1_
   have HB := n2_
   have HO131 := n3_
   clear n0_ n1_ n2_ n3_
   clear ho hb hg hat
   obtain ⟨Ao20, co20, eo20⟩ := Kd.R_slice HO131.out
   (first | subst eo20 | (injection eo20 with f1_ f2_ f3_; have f4_ := f1_.symm; have f5_ := f3_.symm; clear f1_ f2_ f3_; subst f4_; subst f5_))
   refine hK.out _ _ ⟨(bC BK121.out 0).trans rfl, (bC BK121.out 1).trans rfl⟩ (fun hHeld => ?_)
   clear hK K
   refine norm_ (a' := ?_) ?_ ?_
   rotate_left
   ·show Act.put _ (some 14) _ = _
    simp only [Act.put, sI, sZ, sS, i64_w, i32_w]
    rfl
   refine one_ (i := 8) (N := some 15) (TF 9 4) rfl rfl (one_of HT_.out (by kernel_rfl)) (by decide) (fun K hK => ?_)
   refine goes_ Tryd.func81 (by kernel_rfl) rfl #[.slice Ao20 y129.length co20] (by rfl) rfl rfl (by (try simp only [List.map_toArray, List.map_cons, List.map_nil]); first | done | rfl | (simp only [List.length_drop, List.length_take]; rfl) | (rw [wrap_sum2 (by assumption)]; rfl)) ?_
   with_reducible refine (journal_put.calls k _ _ y129 t132 t133 _ ?side1 ?side2 A9.out (HT.below bA)).mono ?_
   (case side1 => repeat (first | exact (Kd.R_reads' HO131.out).2.2 | (with_reducible refine Kd.C_alloc ?_ _) | (with_reducible refine Kd.C_drewN ?_ _) | (with_reducible refine Kd.C_drew ?_)))
   (case side2 => exact (Kd.R_reads' HO131.out).2.1)
   rintro e w21 ⟨rfl, hb⟩
   refine ⟨_, rfl, ?_⟩
   have n0_ := Ax.mk (Kd.R_below (by exact Kd.R_to HO128.out) hb)
   have n1_ := Ax.mk (Kd.R_below (by exact Kd.R_to HO131.out) hb)
   have n2_ := Ax.mk (bB (bT BK121.out) hb)
   have n3_ := Ax.mk (bP bA hb)
   clear HO128
   clear HO131
   clear BK121
   clear HB
   have HO128 := n0_
   have HO131 := n1_
   have BK121 := n2_
   have HB := n3_
   clear n0_ n1_ n2_ n3_
   (try clear hb)
   (try clear hb2)
   (try clear hk)
   (try clear hi)
   refine hK.out _ _ ⟨(bC BK121.out 0).trans rfl, (bC BK121.out 1).trans rfl⟩ (fun hHeld => ?_)
   clear hK K
   refine norm_ (a' := ?_) ?_ ?_
   rotate_left
   ·show Act.put _ (some 15) _ = _
    simp only [Act.put, sI, sZ, sS, i64_w, i32_w]
    rfl
   refine pure_ (i := 9) (N := some 16) (v := ?_) (a' := ?_) (TF 10 3) rfl rfl (any_of HT_.out (by kernel_rfl)) (fun _ _ _ h => h) (Or.inl ⟨by rfl, ?_⟩) ?_ ?_
   rotate_left; · intro w'; go_simp; with_reducible rfl
   rotate_left; · simp only [Act.put, sI, sZ, sS, i64_w, i32_w]; rfl
   refine pure_ (i := 10) (N := some 17) (v := ?_) (a' := ?_) (TF 11 2) rfl rfl (any_of HT_.out (by kernel_rfl)) (fun _ _ _ h => h) (Or.inl ⟨by rfl, ?_⟩) ?_ ?_
   rotate_left; · intro w'; go_simp; with_reducible rfl
   rotate_left; · simp only [Act.put, sI, sZ, sS, i64_w, i32_w]; rfl
   refine pure_ (i := 11) (N := some 2) (v := ?_) (a' := ?_) (TF 12 1) rfl rfl (any_of HT_.out (by kernel_rfl)) (fun _ _ _ h => h) (Or.inl ⟨by rfl, ?_⟩) ?_ ?_
   rotate_left; · intro w'; go_simp; with_reducible rfl
   rotate_left; · simp only [Act.put, sI, sZ, sS, i64_w, i32_w]; rfl
   refine pure_ (i := 12) (N := some 3) (v := ?_) (a' := ?_) (TF 13 0) rfl rfl (any_of HT_.out (by kernel_rfl)) (fun _ _ _ h => h) (Or.inl ⟨by rfl, ?_⟩) ?_ ?_
   rotate_left; · intro w'; go_simp; with_reducible rfl
   rotate_left; · simp only [Act.put, sI, sZ, sS, i64_w, i32_w]; rfl
   refine done_ (done_of HT_.out (by kernel_rfl)) ?_
   try go_wp2
   go_ret2
   exact ⟨by first | rfl | (simp [errW_none, errW_some] <;> rfl) | (simp [*, errW_none, errW_some] <;> rfl), bA⟩
  ·rw [if_neg c8] at H
   exact absurd H (by simp)
def step_Group.f (l : List S44) : Option (List S44) := if l.length ≤ 1000000000 then some l else none
set_option maxHeartbeats 4000000 in
set_option maxRecDepth 100000 in
theorem step_Group.calls (P0_ : Nat → Prop) (A0 : Option Addr) (c0 : Nat) (l0 r1 : List S44) (w : World) (hs0 : Kd.V k44 44 w w.heap.size (fun k_ => P0_ k_) (.slice A0 l0.length c0) l0) (h : step_Group.f l0 = some r1) :
  Calls Tryd.prog 75 #[.slice A0 l0.length c0] w fun e w' => ∃ v0_ : Value, e = .returned v0_ ∧ Kd.N k44 44 w' w.heap.size (fun k_ => (P0_ k_ ∨ w.heap.size ≤ k_)) v0_ r1 ∧ Below w.heap.size w w' := by
 unfold step_Group.f at h
 split at h
 case isFalse => cases h
 rename_i hn
 cases h
 obtain ⟨A, c, hv, hl, hF⟩ := hs0
 cases hv
 have q22 : ∀ (w : World) (a : Option Addr) (n c n' c' : Nat), (binOp .eql 37 (.slice a n c) (.slice none n' c')).run Tryd.prog w = .ok (.bool a.isNone) w := fun w a n c n' c' => Lib.run_eql_slice_nil w _ _ a n c n' c' Tryd.underlying37
 cases A0 with
 | none =>
  have hl0 : l0 = [] := by
   rcases Nat.eq_zero_or_pos l0.length with h0 | h0
   ·exact List.eq_nil_of_length_eq_zero h0
   ·obtain ⟨ad, e, _⟩ := (Kd.F_now hF).2.2 h0
    cases e
  subst hl0
  clear hF
  go_enter Tryd.func75, Tryd.ntmps75
  go_wp2
  go_ret
  exact ⟨_, rfl, Kd.N_nil _ _ _ _ _, Below.refl _ _⟩
 | some ad =>
  have HF := Ax.mk hF
  clear hF
  have HN := Ax.mk (show Kd.N k44 44 (w.alloc (.cells #[] 44)) w.heap.size (fun k => P0_ k ∨ w.heap.size ≤ k) (.slice (some ⟨w.heap.size, 0, none⟩) 0 0) [] from
   Kd.R_N ⟨fun k hk => .inr (by simp [Value.ownBlock] at hk; omega), [], World.ownsRow_made w #[] 0 (Nat.le_refl _) (Nat.zero_le _) (by simp), ⟨rfl, fun j p hj => by simp at hj⟩⟩)
  go_enter Tryd.func75, Tryd.ntmps75
  go_wp2_with (at_builtin; refine Kd.N_append_rows k44 (w0 := w) w.heap.size rfl (.tmp 5) (.tmp 6) 37 44 _ 32 rfl Tryd.underlying37 info44 rfl (by decide) (by omega) (.slice (some ⟨w.heap.size, 0, none⟩) 0 0) [] l0 (some ad) l0.length c0 (fun k => P0_ k ∨ w.heap.size ≤ k) (fun k => P0_ k ∧ k < w.heap.size) rfl rfl HN.out ?qF ?qO ?qR ?qB ?qZ ?qL ?_)
  case qF => exact Kd.F_below (Kd.F_bound HF.out) (below_alloc (Below.refl _ _) _)
  case qO =>
   rintro k ⟨hk, hlt⟩
   exact ⟨.inl hk, by simp [Value.ownBlock]; omega⟩
  case qR => intro k hk; simp at hk; exact .inr (by omega)
  case qB => exact below_alloc (Below.refl _ _) _
  case qZ => simp
  case qL => simp; omega
  intro v1 w1 hN1 hb1 _ _
  go_wp2
  go_ret
  exact ⟨v1, rfl, by simpa using hN1, hb1⟩
def journal_Log_with.f (k : Nat) (a0_0 : Int) (l0_1 : List (S44)) (a0_2 : ByteArray) (a1_0 : Int) (l1_1 : List (S24)) : Option (Int × (List (S44)) × ByteArray × Int) := (journal_closed.f k a1_0 l1_1).bind fun bt137 => (if bt137.2 = 0 then ((step_Step.f l1_1).bind fun t139 => ((step_Group.f l0_1).bind fun t142 => ((some (([(⟨a1_0, t139⟩ : S44)] : List (S44)) : List (S44))).bind fun y145 => (if t142.length + y145.length < 4398046511104 then (if a0_2.size + bt137.1.size ≤ 9223372036854775807 then (some (a1_0, (t142 ++ y145), a0_2 ++ bt137.1, 0)) else (none)) else (none))))) else (some (0, ([] : List (S44)), (⟨#[]⟩ : ByteArray), bt137.2)))
theorem journal_Log_with.mono : ∀ a0 a1 a2 a3 a4 k, LeO (journal_Log_with.f k a0 a1 a2 a3 a4) (journal_Log_with.f (k + 1) a0 a1 a2 a3 a4) := by
 intro a0 a1 a2 a3 a4 k
 unfold journal_Log_with.f
 repeat' first
   | (with_reducible exact journal_closed.mono _ _ _)
   | (with_reducible exact LeO.refl _)
   | (with_reducible exact LeO.none _)
   | (with_reducible refine LeO.ite ?_ ?_)
   | (with_reducible refine LeO.bind ?_ (fun _ => ?_))
   | exact journal_closed.mono _ _ _
   | exact LeO.none _
   | refine LeO.ite ?_ ?_
   | refine LeO.bind ?_ (fun _ => ?_)
def journal_Log_with.T5 : Bool × List (List Nat × List Nat) := (true, [([], []), ([0], [0]), ([], []), ([2], [2]), ([3], [3]), ([], []), ([5], [5]), ([4, 6, 4], [4, 6]), ([], []), ([8], [8]), ([], []), ([9, 10], [9, 10]), ([1, 7, 11], [1, 7, 11]), ([12, 7, 0, 1, 2, 3, 4, 5, 6, 7, 8, 9, 10, 11, 12], [12]), ([13, 0, 1, 2, 3, 4, 5, 6, 7, 8, 9, 10, 11, 12, 13], [])])
def journal_Log_with.B5 : List Nat := [0, 1, 0, 4, 12, 0, 32, 124, 0, 256, 0, 1792, 4095, 8191, 16383]
theorem journal_Log_with.tab5 : rtab .any (opsOf Tryd.f62 5) = journal_Log_with.T5 := by kernel_rfl
theorem journal_Log_with.bits5 : waitsOk journal_Log_with.T5.2 journal_Log_with.B5 = true := by kernel_rfl
set_option maxHeartbeats 8000000 in
set_option maxRecDepth 100000 in
theorem journal_Log_with.calls (k : Nat) (a0_0 : Int) (P0_1_ : Nat → Prop) (A0_1 : Option Addr) (c0_1 : Nat) (l0_1 : List (S44)) (a0_2 : ByteArray) (a1_0 : Int) (A1_1 : Option Addr) (c1_1 : Nat) (l1_1 : List (S24)) (r1 : Int) (r2 : List (S44)) (r3 : ByteArray) (r4 : Int) (w : World) (hs0_1 : Kd.V k44 44 w w.heap.size (fun k_ => P0_1_ k_) (.slice A0_1 l0_1.length c0_1) l0_1) (hr1_1 : Kd.C k24 w A1_1 l1_1.length l1_1) (hc1_1 : l1_1.length ≤ c1_1) (h : journal_Log_with.f k a0_0 l0_1 a0_2 a1_0 l1_1 = some (r1, r2, r3, r4)) (HT : Tabs w) :
  Calls Tryd.prog 62 #[.agg #[.int .u64 a0_0, .slice A0_1 l0_1.length c0_1, .string a0_2], .agg #[.int .u64 a1_0, .slice A1_1 l1_1.length c1_1]] w fun e w' => ∃ v1_ : Value, e = .returned (.tuple #[.agg #[.int .u64 r1, v1_, .string r3], .int .i64 r4]) ∧ Kd.N k44 44 w' w.heap.size (fun k_ => (P0_1_ k_ ∨ w.heap.size ≤ k_)) v1_ r2 ∧ Below w.heap.size w w' := by
 have hu66 := Tryd.underlying66
 have hu44 := Tryd.underlying44
 have HO0_1 := Ax.mk (show Kd.V k44 44 w w.heap.size (fun k_ => (P0_1_ k_ ∨ w.heap.size ≤ k_)) (.slice A0_1 l0_1.length c0_1) l0_1 from Kd.V_mono hs0_1 (fun k_ hk => .inl hk))
 have HR1_1 := Ax.mk hr1_1
 have HC1_1 := Ax.mk hc1_1
 clear hr1_1 hc1_1
 have HB := Ax.mk (Below.refl w.heap.size w)
 have H : ((journal_closed.f k a1_0 l1_1).bind fun bt137 => (if bt137.2 = 0 then ((step_Step.f l1_1).bind fun t139 => ((step_Group.f l0_1).bind fun t142 => ((some (([(⟨a1_0, t139⟩ : S44)] : List (S44)) : List (S44))).bind fun y145 => (if t142.length + y145.length < 4398046511104 then (if a0_2.size + bt137.1.size ≤ 9223372036854775807 then (some (a1_0, (t142 ++ y145), a0_2 ++ bt137.1, 0)) else (none)) else (none))))) else (some (0, ([] : List (S44)), (⟨#[]⟩ : ByteArray), bt137.2)))) = some (r1, r2, r3, r4) := h
 clear h
 replace H := Option.bind_eq_some_iff.mp H
 obtain ⟨⟨t137, t138⟩, A30, H⟩ := H
 replace H : (if t138 = 0 then ((step_Step.f l1_1).bind fun t139 => ((step_Group.f l0_1).bind fun t142 => ((some (([(⟨a1_0, t139⟩ : S44)] : List (S44)) : List (S44))).bind fun y145 => (if t142.length + y145.length < 4398046511104 then (if a0_2.size + t137.size ≤ 9223372036854775807 then (some (a1_0, (t142 ++ y145), a0_2 ++ t137, 0)) else (none)) else (none))))) else (some (0, ([] : List (S44)), (⟨#[]⟩ : ByteArray), t138))) = some (r1, r2, r3, r4) := H
 have A3 := Ax.mk A30
 clear A30
 by_cases c4 : t138 = 0
 ·rw [if_pos c4] at H
  have c4b0 : (t138 == 0) = true := beq_iff_eq.mpr c4
  have c4b1 : (t138 != 0) = false := bne_eq_false_iff_eq.mpr c4
  clear c4
  replace H := Option.bind_eq_some_iff.mp H
  obtain ⟨t139, A50, H⟩ := H
  replace H : ((step_Group.f l0_1).bind fun t142 => ((some (([(⟨a1_0, t139⟩ : S44)] : List (S44)) : List (S44))).bind fun y145 => (if t142.length + y145.length < 4398046511104 then (if a0_2.size + t137.size ≤ 9223372036854775807 then (some (a1_0, (t142 ++ y145), a0_2 ++ t137, 0)) else (none)) else (none)))) = some (r1, r2, r3, r4) := H
  have A5 := Ax.mk A50
  clear A50
  replace H := Option.bind_eq_some_iff.mp H
  obtain ⟨t142, A60, H⟩ := H
  replace H : ((some (([(⟨a1_0, t139⟩ : S44)] : List (S44)) : List (S44))).bind fun y145 => (if t142.length + y145.length < 4398046511104 then (if a0_2.size + t137.size ≤ 9223372036854775807 then (some (a1_0, (t142 ++ y145), a0_2 ++ t137, 0)) else (none)) else (none))) = some (r1, r2, r3, r4) := H
  have A6 := Ax.mk A60
  clear A60
  obtain ⟨y145, hy145⟩ : ∃ y_ : List (S44), y_ = (([(⟨a1_0, t139⟩ : S44)] : List (S44))) := ⟨_, rfl⟩
  replace H : (if t142.length + y145.length < 4398046511104 then (if a0_2.size + t137.size ≤ 9223372036854775807 then (some (a1_0, (t142 ++ y145), a0_2 ++ t137, 0)) else (none)) else (none)) = some (r1, r2, r3, r4) := by first | (rw [hy145]; with_reducible exact H) | (have H2_ := (Option.bind_some _ _).symm.trans H; rw [hy145]; with_reducible exact H2_) | (have H2_ := (Option.bind_some _ _).symm.trans H; with_reducible exact H2_) | with_reducible exact H | (rw [hy145]; exact H) | exact H
  have Ny145 := Ax.mk hy145
  clear hy145
  by_cases c7 : t142.length + y145.length < 4398046511104
  ·rw [if_pos c7] at H
   have LMc7 := Ax.mk c7
   clear c7
   obtain ⟨y148, hy148⟩ : ∃ y_ : List (S44), y_ = (t142 ++ y145) := ⟨_, rfl⟩
   replace H : (if a0_2.size + t137.size ≤ 9223372036854775807 then (some (a1_0, y148, a0_2 ++ t137, 0)) else (none)) = some (r1, r2, r3, r4) := by first | (rw [hy148]; with_reducible exact H) | (have H2_ := (Option.bind_some _ _).symm.trans H; rw [hy148]; with_reducible exact H2_) | (have H2_ := (Option.bind_some _ _).symm.trans H; with_reducible exact H2_) | with_reducible exact H | (rw [hy148]; exact H) | exact H
   have Ny148 := Ax.mk hy148
   clear hy148
   by_cases c8 : a0_2.size + t137.size ≤ 9223372036854775807
   ·rw [if_pos c8] at H
    have c8b0 := eq_true c8
    have c8b1 : decide (a0_2.size + t137.size ≤ 9223372036854775807) = true := decide_eq_true c8
    try have c8b2 : (9223372036854775807 < a0_2.size + t137.size) = False := eq_false (Nat.not_lt.2 c8)
    simp only [Option.some.injEq, Prod.mk.injEq] at H
    obtain ⟨rfl, rfl, rfl, rfl⟩ := H
    go_enter Tryd.func62, Tryd.ntmps62
    try go_wp2_with (first | ((with_reducible refine gate_dst (N := 2) rfl ?_); refine box_event ?hg (N := 2) ?hd (cs := #[.int .u64 a0_0, .slice A0_1 l0_1.length c0_1, .string a0_2]) (t := 66) ?hr ?_; (case hd => rfl); (case hg => rfl); (case hr => first | (go_simp; done) | (go_simp; rfl)); intro gb134 hg w9 hbox hb; have n0_ := Ax.mk (Kd.V_below (Kd.V_elderB (by exact Kd.V_to HO0_1.out) gb134 (Nat.le_of_eq hg.symm)) hb); have n1_ := Ax.mk (bP bA hb); have n2_ := Ax.mk (hbox); have n3_ := Ax.mk ((ge_new hg : w.heap.size ≤ gb134)); have n4_ := n3_; clear HO0_1; clear HB; have HO0_1 := n0_; have HB := n1_; have BK134 := n2_; have GW134 := n3_; have GE134 := n4_; clear n0_ n1_ n2_ n3_ n4_; clear hb hbox hg) | ((with_reducible refine gate_dst (N := 3) rfl ?_); refine box_event ?hg (N := 3) ?hd (cs := #[.int .u64 a1_0, .slice A1_1 l1_1.length c1_1]) (t := 44) ?hr ?_; (case hd => rfl); (case hg => rfl); (case hr => first | (go_simp; done) | (go_simp; rfl)); intro gb135 hg w10 hbox hb; have n0_ := Ax.mk (Kd.V_below (Kd.V_elderB (by exact Kd.V_to HO0_1.out) gb135 (Nat.le_of_eq hg.symm)) hb); have n1_ := Ax.mk (bB (bT BK134.out) hb); have n2_ := Ax.mk (bP bA hb); have n3_ := Ax.mk (hbox); have n4_ := Ax.mk ((ge_new hg : w.heap.size ≤ gb135)); have n5_ := n4_; have n6_ := Ax.mk ((ne_lt hg BK134.out : gb134 ≠ gb135)); have n7_ := Ax.mk ((ne_gt hg BK134.out : gb135 ≠ gb134)); clear HO0_1; clear BK134; clear HB; have HO0_1 := n0_; have BK134 := n1_; have HB := n2_; have BK135 := n3_; have GW135 := n4_; have GE135 := n5_; have NB134_135 := n6_; have NB135_134 := n7_; clear n0_ n1_ n2_ n3_ n4_ n5_ n6_ n7_; clear hb hbox hg) | ((with_reducible refine gate_dst (N := 4) rfl ?_); refine box_event ?hg (N := 4) ?hd (cs := #[.int .u64 0, .slice none 0 0, .string (⟨#[]⟩ : ByteArray)]) (t := 66) ?hr ?_; (case hd => rfl); (case hg => rfl); (case hr => first | (go_simp; done) | (go_simp; rfl)); intro gb136 hg w11 hbox hb; have n0_ := Ax.mk (Kd.V_below (Kd.V_elderB (by exact Kd.V_to HO0_1.out) gb136 (Nat.le_of_eq hg.symm)) hb); have n1_ := Ax.mk (bB (bT BK134.out) hb); have n2_ := Ax.mk (bB (bT BK135.out) hb); have n3_ := Ax.mk (bP bA hb); have n4_ := Ax.mk (hbox); have n5_ := Ax.mk ((ge_new hg : w.heap.size ≤ gb136)); have n6_ := n5_; have n7_ := Ax.mk ((ne_lt hg BK134.out : gb134 ≠ gb136)); have n8_ := Ax.mk ((ne_gt hg BK134.out : gb136 ≠ gb134)); have n9_ := Ax.mk ((ne_lt hg BK135.out : gb135 ≠ gb136)); have n10_ := Ax.mk ((ne_gt hg BK135.out : gb136 ≠ gb135)); clear HO0_1; clear BK134; clear BK135; clear HB; have HO0_1 := n0_; have BK134 := n1_; have BK135 := n2_; have HB := n3_; have BK136 := n4_; have GW136 := n5_; have GE136 := n6_; have NB134_136 := n7_; have NB136_134 := n8_; have NB135_136 := n9_; have NB136_135 := n10_; clear n0_ n1_ n2_ n3_ n4_ n5_ n6_ n7_ n8_ n9_ n10_; clear hb hbox hg; have hnb12 := NB135_134.out; have hnc12 := NB134_135.out; have hnb13 := NB135_136.out; have hnc13 := NB136_135.out; have hcz14_0 : w11.cell? ⟨gb135, 0, none⟩ = some (.int .u64 a1_0) := (bC BK135.out 0).trans rfl; have hcz14_1 : w11.cell? ⟨gb135, 1, none⟩ = some (.slice A1_1 l1_1.length c1_1) := (bC BK135.out 1).trans rfl; have hfz14_0 := bF BK135.out 0; have hfz14_1 := bF BK135.out 1) | ((with_reducible refine gate_callee (f := 74) rfl ?_); refine goesL_ (some 10) rfl rfl Tryd.func74 (by kernel_rfl) rfl #[.agg #[.int .u64 a1_0, .slice A1_1 l1_1.length c1_1]] rfl (by (try simp only [List.map_toArray, List.map_cons, List.map_nil]); first | done | rfl | (simp only [List.length_drop, List.length_take]; rfl) | (rw [wrap_sum2 (by assumption)]; rfl)) ?_; (with_reducible refine (journal_closed.calls k a1_0 _ _ l1_1 t137 t138 _ ?side1 ?side2 A3.out (HT.below bA)).mono ?_); (case side1 => repeat (first | exact (Kd.C_below HR1_1.out HB.out) | (with_reducible refine Kd.C_alloc ?_ _) | (with_reducible refine Kd.C_drewN ?_ _) | (with_reducible refine Kd.C_drew ?_))); (case side2 => exact HC1_1.out); rintro e w15 ⟨rfl, hb⟩; refine ⟨_, rfl, ?_⟩; have n0_ := Ax.mk (Kd.V_below (by exact Kd.V_to HO0_1.out) hb); have n1_ := Ax.mk (bB (bT BK134.out) hb); have n2_ := Ax.mk (bB (bT BK135.out) hb); have n3_ := Ax.mk (bB (bT BK136.out) hb); have n4_ := Ax.mk (bP bA hb); clear HO0_1; clear BK134; clear BK135; clear BK136; clear HB; have HO0_1 := n0_; have BK134 := n1_; have BK135 := n2_; have BK136 := n3_; have HB := n4_; clear n0_ n1_ n2_ n3_ n4_; (try clear hb); (try clear hb2); (try clear hk); (try clear hi); have hcz16_0 : w15.cell? ⟨gb135, 0, none⟩ = some (.int .u64 a1_0) := (bC BK135.out 0).trans rfl; have hcz16_1 : w15.cell? ⟨gb135, 1, none⟩ = some (.slice A1_1 l1_1.length c1_1) := (bC BK135.out 1).trans rfl; have hfz16_0 := bF BK135.out 0; have hfz16_1 := bF BK135.out 1) | ((with_reducible refine gate_callee (f := 53) rfl ?_); refine goesL_ (some 19) rfl rfl Tryd.func53 (by kernel_rfl) rfl #[.slice A1_1 l1_1.length c1_1] rfl (by (try simp only [List.map_toArray, List.map_cons, List.map_nil]); first | done | rfl | (simp only [List.length_drop, List.length_take]; rfl) | (rw [wrap_sum2 (by assumption)]; rfl)) ?_; (with_reducible refine (step_Step.calls _ _ l1_1 t139 _ ?side1 ?side2 A5.out).mono ?_); (case side1 => repeat (first | exact (Kd.C_below HR1_1.out HB.out) | (with_reducible refine Kd.C_alloc ?_ _) | (with_reducible refine Kd.C_drewN ?_ _) | (with_reducible refine Kd.C_drew ?_))); (case side2 => exact HC1_1.out); rintro e w17 ⟨v140, rfl, ho0, hb⟩; refine ⟨_, rfl, ?_⟩; have n0_ := Ax.mk (Kd.V_elder' (by exact Kd.V_to HO0_1.out) (Kd.R_base ho0) hb); have n1_ := Ax.mk (Kd.R_lower (Kd.R_newM (M := fun k_ => (w.heap.size ≤ k_)) ho0 (bS bA) (fun k_ h_ => h_)) (bS bA)); have n2_ := Ax.mk (bB (bT BK134.out) hb); have n3_ := Ax.mk (bB (bT BK135.out) hb); have n4_ := Ax.mk (bB (bT BK136.out) hb); have n5_ := Ax.mk (bP bA hb); clear HO0_1; clear BK134; clear BK135; clear BK136; clear HB; have HO0_1 := n0_; have HO141 := n1_; have BK134 := n2_; have BK135 := n3_; have BK136 := n4_; have HB := n5_; clear n0_ n1_ n2_ n3_ n4_ n5_; (try clear hb); (try clear hb2); (try clear hk); (try clear hi); (try clear ho0); obtain ⟨Ao18, co18, eo18⟩ := Kd.R_slice HO141.out; subst eo18; have hcz19_0 : w17.cell? ⟨gb135, 0, none⟩ = some (.int .u64 a1_0) := (bC BK135.out 0).trans rfl; have hcz19_1 : w17.cell? ⟨gb135, 1, none⟩ = some (.slice A1_1 l1_1.length c1_1) := (bC BK135.out 1).trans rfl; have hfz19_0 := bF BK135.out 0; have hfz19_1 := bF BK135.out 1))
    have n0_ : Ax (Kd.V k44 44 (w17.setCell ⟨gb135, 1, none⟩ (.slice Ao18 t139.length co18)) w.heap.size (fun k_ => (P0_1_ k_ ∨ w.heap.size ≤ k_) ∧ some k_ ≠ (.slice Ao18 t139.length co18 : Value).ownBlock ∧ k_ ≠ gb134 ∧ k_ ≠ gb135 ∧ k_ ≠ gb136) (.slice A0_1 l0_1.length c0_1) l0_1) := ⟨by apply Kd.V_to; exact Kd.V_mono (Kd.V_far (p := ⟨gb135, 1, none⟩) (Kd.V_mono HO0_1.out (fun k_ hk => (⟨hk, hk.1.1.2⟩ : _ ∧ k_ ≠ gb135))) (fun _ hk => hk.2) (.slice Ao18 t139.length co18)) (fun _ hk => ⟨hk.1.1.1.1.1, ⟨hk.1.2, ⟨hk.1.1.1.1.2, ⟨hk.1.1.1.2, hk.1.1.2⟩⟩⟩⟩)⟩
    have n1_ : Ax (Kd.R k24 24 (w17.setCell ⟨gb135, 1, none⟩ (.slice Ao18 t139.length co18)) w.heap.size (fun k_ => (w.heap.size ≤ k_)) (.slice Ao18 t139.length co18) t139) := ⟨by apply Kd.R_to; exact Kd.R_mono (Kd.R_far (p := ⟨gb135, 1, none⟩) (Kd.R_types HO141.out BK135.out (by decide)) (fun _ hk => hk.2) (.slice Ao18 t139.length co18)) (fun _ hk => hk.1.1)⟩
    have n2_ : Ax ((w17.setCell ⟨gb135, 1, none⟩ (.slice Ao18 t139.length co18)).heap[gb134]? = some (.cells #[.int .u64 a0_0, .slice A0_1 l0_1.length c0_1, .string a0_2] 66 (0, 0))) := ⟨by refine bT ?_; refine bR ?_ NB134_135.out _; refine bT ?_; exact BK134.out⟩
    have n3_ : Ax ((w17.setCell ⟨gb135, 1, none⟩ (.slice Ao18 t139.length co18)).heap[gb135]? = some (.cells #[.int .u64 a1_0, .slice Ao18 t139.length co18] 44 (0, 0))) := ⟨by refine bT ?_; refine bU (cs := #[.int .u64 a1_0, .slice A1_1 l1_1.length c1_1]) ?_ 1 _ rfl; refine bT ?_; exact BK135.out⟩
    have n4_ : Ax ((w17.setCell ⟨gb135, 1, none⟩ (.slice Ao18 t139.length co18)).heap[gb136]? = some (.cells #[.int .u64 0, .slice none 0 0, .string (⟨#[]⟩ : ByteArray)] 66 (0, 0))) := ⟨by refine bT ?_; refine bR ?_ NB136_135.out _; refine bT ?_; exact BK136.out⟩
    have n5_ : Ax (Below w.heap.size w (w17.setCell ⟨gb135, 1, none⟩ (.slice Ao18 t139.length co18))) := ⟨bA⟩
    (try clear HO0_1)
    (try clear HO141)
    (try clear BK134)
    (try clear BK135)
    (try clear BK136)
    (try clear HB)
    generalize (w17.setCell ⟨gb135, 1, none⟩ (.slice Ao18 t139.length co18)) = w20 at n0_ n1_ n2_ n3_ n4_ n5_ ⊢
    have HO0_1 := n0_
    have HO141 := n1_
    have BK134 := n2_
    have BK135 := n3_
    have BK136 := n4_
    have HB := n5_
    clear n0_ n1_ n2_ n3_ n4_ n5_
    have n0_ := Ax.mk (Kd.V_drew HO0_1.out)
    have n1_ := Ax.mk (Kd.R_drew HO141.out)
    have n2_ := Ax.mk (blk_drew BK134.out)
    have n3_ := Ax.mk (blk_drew BK135.out)
    have n4_ := Ax.mk (blk_drew BK136.out)
    have n5_ := Ax.mk (below_drew1 HB.out)
    clear HO0_1
    clear HO141
    clear BK134
    clear BK135
    clear BK136
    clear HB
    have HO0_1 := n0_
    have HO141 := n1_
    have BK134 := n2_
    have BK135 := n3_
    have BK136 := n4_
    have HB := n5_
    clear n0_ n1_ n2_ n3_ n4_ n5_
    refine start_ (n := 15) (S := fun w' => w'.cell? ⟨gb135, 0, none⟩ = some (.int .u64 a1_0) ∧ w'.cell? ⟨gb135, 1, none⟩ = some (.slice Ao18 t139.length co18) ∧ w'.cell? ⟨gb134, 0, none⟩ = some (.int .u64 a0_0) ∧ w'.cell? ⟨gb134, 1, none⟩ = some (.slice A0_1 l0_1.length c0_1) ∧ w'.cell? ⟨gb134, 2, none⟩ = some (.string a0_2)) (ds := []) (TF 0 15) (by kernel_rfl) rfl rfl ⟨(bC BK135.out 0).trans rfl, (bC BK135.out 1).trans rfl, (bC BK134.out 0).trans rfl, (bC BK134.out 1).trans rfl, (bC BK134.out 2).trans rfl⟩ (fun hHeld => ?_); refine with_tabW journal_Log_with.tab5 journal_Log_with.bits5 (fun HT_ HW_ => ?_)
    generalize w20.drew = w21 at HO0_1 HO141 BK134 BK135 BK136 HB hHeld ⊢
    refine pure_ (i := 0) (N := some 21) (v := ?_) (a' := ?_) (TF 1 14) rfl rfl (any_of HT_.out (by kernel_rfl)) (fun _ _ _ h => h) (Or.inl ⟨by rfl, ?_⟩) ?_ ?_
    rotate_left; · intro w'; go_simp; with_reducible rfl
    rotate_left; · simp only [Act.put, sI, sZ, sS, i64_w, i32_w]; rfl
    refine pure_ (i := 2) (N := some 23) (v := ?_) (a' := ?_) (BT 15 5) rfl rfl (any_of HT_.out (by kernel_rfl)) (fun _ _ _ h => h) (Or.inl ⟨by rfl, ?_⟩) ?_ ?_
    rotate_left; · intro w'; go_simp; with_reducible rfl
    rotate_left; · simp only [Act.put, sI, sZ, sS, i64_w, i32_w]; rfl
    refine pure_ (i := 8) (N := some 29) (v := ?_) (a' := ?_) (BT 15 261) rfl rfl (any_of HT_.out (by kernel_rfl)) (fun _ _ _ h => h) (Or.inl ⟨by rfl, ?_⟩) ?_ ?_
    rotate_left; · intro w'; go_simp; with_reducible rfl
    rotate_left; · simp only [Act.put, sI, sZ, sS, i64_w, i32_w]; rfl
    refine pure_ (i := 10) (N := some 31) (v := ?_) (a' := ?_) (BT 15 1285) rfl rfl (any_of HT_.out (by kernel_rfl)) (fun _ _ _ h => h) (Or.inl ⟨by rfl, ?_⟩) ?_ ?_
    rotate_left; · intro w'; go_simp; with_reducible rfl
    rotate_left; · simp only [Act.put, sI, sZ, sS, i64_w, i32_w]; rfl
    refine take_ (i := 1) (N := some 22) (v := ?_) (a' := ?_) (BT 15 1287) rfl rfl (take_ofW HT_.out HW_.out (by kernel_rfl)) (fun _ _ _ h => h) (Or.inl ⟨by rfl, ?_⟩) hHeld ?_ ?_
    rotate_left
    ·rintro w' ⟨s0, s1, s2, s3, s4⟩
     go_simp
     with_reducible rfl
    rotate_left
    ·simp only [Act.put, sI, sZ, sS, i64_w, i32_w]
     rfl
    refine take_ (i := 3) (N := some 24) (v := ?_) (a' := ?_) (BT 15 1295) rfl rfl (take_ofW HT_.out HW_.out (by kernel_rfl)) (fun _ _ _ h => h) (Or.inl ⟨by rfl, ?_⟩) hHeld ?_ ?_
    rotate_left
    ·rintro w' ⟨s0, s1, s2, s3, s4⟩
     go_simp
     with_reducible rfl
    rotate_left
    ·simp only [Act.put, sI, sZ, sS, i64_w, i32_w]
     rfl
    refine take_ (i := 5) (N := some 26) (v := ?_) (a' := ?_) (BT 15 1327) rfl rfl (take_ofW HT_.out HW_.out (by kernel_rfl)) (fun _ _ _ h => h) (Or.inl ⟨by rfl, ?_⟩) hHeld ?_ ?_
    rotate_left
    ·rintro w' ⟨s0, s1, s2, s3, s4⟩
     go_simp
     with_reducible rfl
    rotate_left
    ·simp only [Act.put, sI, sZ, sS, i64_w, i32_w]
     rfl
    refine take_ (i := 9) (N := some 30) (v := ?_) (a' := ?_) (BT 15 1839) rfl rfl (take_ofW HT_.out HW_.out (by kernel_rfl)) (fun _ _ _ h => h) (Or.inl ⟨by rfl, ?_⟩) hHeld ?_ ?_
    rotate_left
    ·rintro w' ⟨s0, s1, s2, s3, s4⟩
     go_simp
     with_reducible rfl
    rotate_left
    ·simp only [Act.put, sI, sZ, sS, i64_w, i32_w]
     rfl
    refine pure_ (i := 11) (N := some 32) (v := ?_) (a' := ?_) (BT 15 3887) rfl rfl (any_of HT_.out (by kernel_rfl)) (fun _ _ _ h => h) (Or.inl ⟨by rfl, ?_⟩) ?_ ?_
    rotate_left; · intro w'; go_simp; with_reducible rfl
    rotate_left; · simp only [Act.put, sI, sZ, sS, i64_w, i32_w]; rfl
    refine join_ (σ := Value × Value) 4 (BT 15 3967) (fun s_ => [(25, s_.1), (27, s_.2)]) (fun s_ w' => (w'.cell? ⟨gb135, 0, none⟩ = some (.int .u64 a1_0) ∧ w'.cell? ⟨gb135, 1, none⟩ = some (.slice Ao18 t139.length co18) ∧ w'.cell? ⟨gb134, 0, none⟩ = some (.int .u64 a0_0) ∧ w'.cell? ⟨gb134, 1, none⟩ = some (.slice A0_1 l0_1.length c0_1) ∧ w'.cell? ⟨gb134, 2, none⟩ = some (.string a0_2)) ∧ (Kd.V k44 44 w' w.heap.size (fun k_ => (P0_1_ k_ ∨ w.heap.size ≤ k_) ∧ some k_ ≠ (s_.1 : Value).ownBlock ∧ some k_ ≠ (s_.2 : Value).ownBlock ∧ k_ ≠ gb134 ∧ k_ ≠ gb135 ∧ k_ ≠ gb136) (.slice A0_1 l0_1.length c0_1) l0_1) ∧ (Kd.N k44 44 w' w.heap.size (fun k_ => (P0_1_ k_ ∨ w.heap.size ≤ k_) ∧ some k_ ≠ (s_.2 : Value).ownBlock ∧ k_ ≠ gb134 ∧ k_ ≠ gb135 ∧ k_ ≠ gb136) s_.1 t142) ∧ (Kd.N k44 44 w' w.heap.size (fun k_ => (P0_1_ k_ ∨ w.heap.size ≤ k_) ∧ some k_ ≠ (s_.1 : Value).ownBlock ∧ k_ ≠ gb134 ∧ k_ ≠ gb135 ∧ k_ ≠ gb136) s_.2 y145) ∧ (w'.heap[gb134]? = some (.cells #[.int .u64 a0_0, .slice A0_1 l0_1.length c0_1, .string a0_2] 66 (0, 0))) ∧ (w'.heap[gb135]? = some (.cells #[.int .u64 a1_0, .slice Ao18 t139.length co18] 44 (0, 0))) ∧ (w'.heap[gb136]? = some (.cells #[.int .u64 0, .slice none 0 0, .string (⟨#[]⟩ : ByteArray)] 66 (0, 0))) ∧ (Below w.heap.size w w')) ?_ ?_
    rotate_left
    ·intro hCont
     refine two_ (i := 4) (j := 6) (Ni := some 25) (Nj := some 27) (BT 15 3903) (BT 15 3951) rfl rfl rfl rfl (two_of HT_.out (by kernel_rfl)) (by decide) (by decide) (fun K hK => ?_) (fun K hK => ?_)
     ·skip
      refine goes_ Tryd.func75 (by kernel_rfl) rfl #[.slice A0_1 l0_1.length c0_1] (by rfl) rfl rfl (by (try simp only [List.map_toArray, List.map_cons, List.map_nil]); first | done | rfl | (simp only [List.length_drop, List.length_take]; rfl) | (rw [wrap_sum2 (by assumption)]; rfl)) ?_
      with_reducible refine (step_Group.calls (fun k_ => ((P0_1_ k_ ∨ w.heap.size ≤ k_) ∧ (some k_ ≠ (.slice Ao18 t139.length co18 : Value).ownBlock ∧ (k_ ≠ gb134 ∧ (k_ ≠ gb135 ∧ k_ ≠ gb136))))) _ _ l0_1 t142 _ ?side1 A6.out).mono ?_
      (case side1 => exact HO0_1.out)
      rintro e w22 ⟨v143, rfl, ho0, hb⟩
      refine ⟨_, rfl, ?_⟩
      have n0_ := Ax.mk (Kd.V_elder' (by exact Kd.V_to HO0_1.out) (Kd.N_base ho0) hb)
      have n1_ := Ax.mk (Kd.R_below (by exact Kd.R_to HO141.out) hb)
      have n2_ := Ax.mk (Kd.N_lower (Kd.N_mono (ok' := fun k_ => (P0_1_ k_ ∨ w.heap.size ≤ k_) ∧ some k_ ≠ (.slice Ao18 t139.length co18 : Value).ownBlock ∧ k_ ≠ gb134 ∧ k_ ≠ gb135 ∧ k_ ≠ gb136) ho0 (fun k_ hk_ => ⟨Or.elim hk_ (fun hs_ => hs_.1) (fun hn_ => (.inr (Nat.le_trans (bS bA) hn_))), Or.elim hk_ (fun hs_ => hs_.2.1) (fun hn_ => (Kd.fresh' (Kd.R_lt (by exact Kd.R_to HO141.out)) k_ hn_)), Or.elim hk_ (fun hs_ => hs_.2.2.1) (fun hn_ => (Kd.freshB (g := gb134) (o := .cells #[.int .u64 a0_0, .slice A0_1 l0_1.length c0_1, .string a0_2] 66 (0, 0)) (bT BK134.out) k_ hn_)), Or.elim hk_ (fun hs_ => hs_.2.2.2.1) (fun hn_ => (Kd.freshB (g := gb135) (o := .cells #[.int .u64 a1_0, .slice Ao18 t139.length co18] 44 (0, 0)) (bT BK135.out) k_ hn_)), Or.elim hk_ (fun hs_ => hs_.2.2.2.2) (fun hn_ => (Kd.freshB (g := gb136) (o := .cells #[.int .u64 0, .slice none 0 0, .string (⟨#[]⟩ : ByteArray)] 66 (0, 0)) (bT BK136.out) k_ hn_))⟩)) (bS bA))
      have n3_ := Ax.mk (bB (bT BK134.out) hb)
      have n4_ := Ax.mk (bB (bT BK135.out) hb)
      have n5_ := Ax.mk (bB (bT BK136.out) hb)
      have n6_ := Ax.mk (bP bA hb)
      clear HO0_1
      clear HO141
      clear BK134
      clear BK135
      clear BK136
      clear HB
      have HO0_1 := n0_
      have HO141 := n1_
      have HO144 := n2_
      have BK134 := n3_
      have BK135 := n4_
      have BK136 := n5_
      have HB := n6_
      clear n0_ n1_ n2_ n3_ n4_ n5_ n6_
      (try clear hb)
      (try clear hb2)
      (try clear hk)
      (try clear hi)
      (try clear ho0)
      refine hK.out _ _ ⟨(bC BK135.out 0).trans rfl, (bC BK135.out 1).trans rfl, (bC BK134.out 0).trans rfl, (bC BK134.out 1).trans rfl, (bC BK134.out 2).trans rfl⟩ (fun hHeld => ?_)
      clear hK K
      refine norm_ (a' := ?_) ?_ ?_
      rotate_left
      ·show Act.put _ (some 25) _ = _
       simp only [Act.put, sI, sZ, sS, i64_w, i32_w]
       rfl
      refine one_ (i := 6) (N := some 27) (BT 15 3967) rfl rfl (one_of HT_.out (by kernel_rfl)) (by decide) (fun K hK => ?_)
      refine Kd.N_lit_step k44 _ 44 ?hg (N' := 27) ?hd (xs := ([(⟨a1_0, t139⟩ : S44)] : List (S44))) (inner := [.int .u64 a1_0, .slice Ao18 t139.length co18]) (ok := (fun k_ => (P0_1_ k_ ∨ w.heap.size ≤ k_) ∧ some k_ ≠ (v143 : Value).ownBlock ∧ k_ ≠ gb134 ∧ k_ ≠ gb135 ∧ k_ ≠ gb136)) (okp := (fun k_ => (P0_1_ k_ ∨ w.heap.size ≤ k_) ∧ some k_ ≠ (v143 : Value).ownBlock ∧ k_ ≠ gb134 ∧ k_ ≠ gb135 ∧ k_ ≠ gb136)) ?hr ?hp (fun _ hk => hk) ((show ∀ k_, w22.heap.size ≤ k_ → (fun k_ => (P0_1_ k_ ∨ w.heap.size ≤ k_) ∧ some k_ ≠ (v143 : Value).ownBlock ∧ k_ ≠ gb134 ∧ k_ ≠ gb135 ∧ k_ ≠ gb136) k_ from fun k_ hk => ⟨(.inr (Nat.le_trans (bS bA) hk)), Kd.fresh' (Kd.N_lt (by exact Kd.N_to HO144.out)) k_ hk, Kd.freshB (g := gb134) (o := .cells #[.int .u64 a0_0, .slice A0_1 l0_1.length c0_1, .string a0_2] 66 (0, 0)) (bT BK134.out) k_ hk, Kd.freshB (g := gb135) (o := .cells #[.int .u64 a1_0, .slice Ao18 t139.length co18] 44 (0, 0)) (bT BK135.out) k_ hk, Kd.freshB (g := gb136) (o := .cells #[.int .u64 0, .slice none 0 0, .string (⟨#[]⟩ : ByteArray)] 66 (0, 0)) (bT BK136.out) k_ hk⟩) _ (Nat.le_refl _)) (Below.refl _ _) (Nat.le_refl _) (by simp) ?_; (case hd => rfl); (case hg => rfl); (case hr => first | (go_simp; done) | (go_simp; rfl)); (case hp => exact (Reps.c2 (show Kd.FK k44 _ _ (⟨a1_0, t139⟩ : S44) [.int .u64 a1_0, .slice Ao18 t139.length co18] from (k44_mkF _ _ (⟨a1_0, t139⟩ : S44) (Kd.R_reads' (Kd.R_mono (ok' := (fun k_ => (P0_1_ k_ ∨ w.heap.size ≤ k_) ∧ some k_ ≠ (v143 : Value).ownBlock ∧ k_ ≠ gb134 ∧ k_ ≠ gb135 ∧ k_ ≠ gb136)) (Kd.R_types (Kd.R_types (Kd.R_types (Kd.R_apart' (HO141.out) (Kd.N_typed HO144.out) (by decide)) BK134.out (by decide)) BK135.out (by decide)) BK136.out (by decide)) (fun k_ hk => ⟨(.inr (hk.1.1.1.1)), ⟨hk.1.1.1.2, ⟨hk.1.1.2, ⟨hk.1.2, hk.2⟩⟩⟩⟩))).2.1 (Kd.R_F (Kd.R_mono (ok' := (fun k_ => (P0_1_ k_ ∨ w.heap.size ≤ k_) ∧ some k_ ≠ (v143 : Value).ownBlock ∧ k_ ≠ gb134 ∧ k_ ≠ gb135 ∧ k_ ≠ gb136)) (Kd.R_types (Kd.R_types (Kd.R_types (Kd.R_apart' (HO141.out) (Kd.N_typed HO144.out) (by decide)) BK134.out (by decide)) BK135.out (by decide)) BK136.out (by decide)) (fun k_ hk => ⟨(.inr (hk.1.1.1.1)), ⟨hk.1.1.1.2, ⟨hk.1.1.2, ⟨hk.1.2, hk.2⟩⟩⟩⟩))))) (Reps.none _ _)))
      intro v146 w23 ho24 hb hg_ hnew_
      clear hg_ hnew_
      (first | rw [← Ny145.out] at ho24 | (simp only [Int.reduceToNat] at ho24; rw [← Ny145.out] at ho24))
      have n0_ := Ax.mk (Kd.V_elder' (by exact Kd.V_to HO0_1.out) (Kd.N_base ho24) hb)
      have n1_ := Ax.mk (Kd.N_elder' (by exact Kd.N_to HO144.out) (Kd.N_base ho24) hb)
      have n2_ := Ax.mk (Kd.N_lower ho24 (bS bA))
      have n3_ := Ax.mk (bB (bT BK134.out) hb)
      have n4_ := Ax.mk (bB (bT BK135.out) hb)
      have n5_ := Ax.mk (bB (bT BK136.out) hb)
      have n6_ := Ax.mk (bP bA hb)
      clear HO0_1
      clear HO144
      clear BK134
      clear BK135
      clear BK136
      clear HB
      clear HO141
      have HO0_1 := n0_
      have HO144 := n1_
      have HO147 := n2_
      have BK134 := n3_
      have BK135 := n4_
      have BK136 := n5_
      have HB := n6_
      clear n0_ n1_ n2_ n3_ n4_ n5_ n6_
      clear hb ho24
      refine hK.out _ _ ⟨(bC BK135.out 0).trans rfl, (bC BK135.out 1).trans rfl, (bC BK134.out 0).trans rfl, (bC BK134.out 1).trans rfl, (bC BK134.out 2).trans rfl⟩ (fun hHeld => ?_)
      clear hK K
      refine norm_ (a' := ?_) ?_ ?_
      rotate_left
      ·show Act.put _ (some 27) _ = _
       simp only [Act.put, sI, sZ, sS, i64_w, i32_w]
       rfl
      exact norm_ (by simp only [putAll, Act.put, sI, sZ, sS]) (hCont (v143, v146) _ ⟨hHeld, (by apply Kd.V_to; exact Kd.V_mono HO0_1.out (fun _ hk => ⟨hk.1.1.1, ⟨hk.1.2, ⟨hk.2, ⟨hk.1.1.2.2.1, ⟨hk.1.1.2.2.2.1, hk.1.1.2.2.2.2⟩⟩⟩⟩⟩)), (by apply Kd.N_to; exact Kd.N_mono HO144.out (fun _ hk => ⟨hk.1.1, ⟨hk.2, ⟨hk.1.2.2.1, ⟨hk.1.2.2.2.1, hk.1.2.2.2.2⟩⟩⟩⟩)), (by exact Kd.N_to HO147.out), (bT BK134.out), (bT BK135.out), (bT BK136.out), bA⟩)
     ·skip
      refine Kd.N_lit_step k44 _ 44 ?hg (N' := 27) ?hd (xs := ([(⟨a1_0, t139⟩ : S44)] : List (S44))) (inner := [.int .u64 a1_0, .slice Ao18 t139.length co18]) (ok := (fun k_ => (P0_1_ k_ ∨ w.heap.size ≤ k_) ∧ k_ ≠ gb134 ∧ k_ ≠ gb135 ∧ k_ ≠ gb136)) (okp := (fun k_ => (P0_1_ k_ ∨ w.heap.size ≤ k_) ∧ k_ ≠ gb134 ∧ k_ ≠ gb135 ∧ k_ ≠ gb136)) ?hr ?hp (fun _ hk => hk) ((show ∀ k_, w21.heap.size ≤ k_ → (fun k_ => (P0_1_ k_ ∨ w.heap.size ≤ k_) ∧ k_ ≠ gb134 ∧ k_ ≠ gb135 ∧ k_ ≠ gb136) k_ from fun k_ hk => ⟨(.inr (Nat.le_trans (bS bA) hk)), Kd.freshB (g := gb134) (o := .cells #[.int .u64 a0_0, .slice A0_1 l0_1.length c0_1, .string a0_2] 66 (0, 0)) (bT BK134.out) k_ hk, Kd.freshB (g := gb135) (o := .cells #[.int .u64 a1_0, .slice Ao18 t139.length co18] 44 (0, 0)) (bT BK135.out) k_ hk, Kd.freshB (g := gb136) (o := .cells #[.int .u64 0, .slice none 0 0, .string (⟨#[]⟩ : ByteArray)] 66 (0, 0)) (bT BK136.out) k_ hk⟩) _ (Nat.le_refl _)) (Below.refl _ _) (Nat.le_refl _) (by simp) ?_; (case hd => rfl); (case hg => rfl); (case hr => first | (go_simp; done) | (go_simp; rfl)); (case hp => exact (Reps.c2 (show Kd.FK k44 _ _ (⟨a1_0, t139⟩ : S44) [.int .u64 a1_0, .slice Ao18 t139.length co18] from (k44_mkF _ _ (⟨a1_0, t139⟩ : S44) (Kd.R_reads' (Kd.R_mono (ok' := (fun k_ => (P0_1_ k_ ∨ w.heap.size ≤ k_) ∧ k_ ≠ gb134 ∧ k_ ≠ gb135 ∧ k_ ≠ gb136)) (Kd.R_types (Kd.R_types (Kd.R_types (HO141.out) BK134.out (by decide)) BK135.out (by decide)) BK136.out (by decide)) (fun k_ hk => ⟨(.inr (hk.1.1.1)), ⟨hk.1.1.2, ⟨hk.1.2, hk.2⟩⟩⟩))).2.1 (Kd.R_F (Kd.R_mono (ok' := (fun k_ => (P0_1_ k_ ∨ w.heap.size ≤ k_) ∧ k_ ≠ gb134 ∧ k_ ≠ gb135 ∧ k_ ≠ gb136)) (Kd.R_types (Kd.R_types (Kd.R_types (HO141.out) BK134.out (by decide)) BK135.out (by decide)) BK136.out (by decide)) (fun k_ hk => ⟨(.inr (hk.1.1.1)), ⟨hk.1.1.2, ⟨hk.1.2, hk.2⟩⟩⟩))))) (Reps.none _ _)))
      intro v146 w22 ho23 hb hg_ hnew_
      clear hg_ hnew_
      (first | rw [← Ny145.out] at ho23 | (simp only [Int.reduceToNat] at ho23; rw [← Ny145.out] at ho23))
      have n0_ := Ax.mk (Kd.V_elder' (by exact Kd.V_to HO0_1.out) (Kd.N_base ho23) hb)
      have n1_ := Ax.mk (Kd.N_lower ho23 (bS bA))
      have n2_ := Ax.mk (bB (bT BK134.out) hb)
      have n3_ := Ax.mk (bB (bT BK135.out) hb)
      have n4_ := Ax.mk (bB (bT BK136.out) hb)
      have n5_ := Ax.mk (bP bA hb)
      clear HO0_1
      clear BK134
      clear BK135
      clear BK136
      clear HB
      clear HO141
      have HO0_1 := n0_
      have HO147 := n1_
      have BK134 := n2_
      have BK135 := n3_
      have BK136 := n4_
      have HB := n5_
      clear n0_ n1_ n2_ n3_ n4_ n5_
      clear hb ho23
      refine hK.out _ _ ⟨(bC BK135.out 0).trans rfl, (bC BK135.out 1).trans rfl, (bC BK134.out 0).trans rfl, (bC BK134.out 1).trans rfl, (bC BK134.out 2).trans rfl⟩ (fun hHeld => ?_)
      clear hK K
      refine norm_ (a' := ?_) ?_ ?_
      rotate_left
      ·show Act.put _ (some 27) _ = _
       simp only [Act.put, sI, sZ, sS, i64_w, i32_w]
       rfl
      refine one_ (i := 4) (N := some 25) (BT 15 3967) rfl rfl (one_of HT_.out (by kernel_rfl)) (by decide) (fun K hK => ?_)
      refine goes_ Tryd.func75 (by kernel_rfl) rfl #[.slice A0_1 l0_1.length c0_1] (by rfl) rfl rfl (by (try simp only [List.map_toArray, List.map_cons, List.map_nil]); first | done | rfl | (simp only [List.length_drop, List.length_take]; rfl) | (rw [wrap_sum2 (by assumption)]; rfl)) ?_
      with_reducible refine (step_Group.calls (fun k_ => ((P0_1_ k_ ∨ w.heap.size ≤ k_) ∧ (k_ ≠ gb134 ∧ (k_ ≠ gb135 ∧ (k_ ≠ gb136 ∧ some k_ ≠ (v146 : Value).ownBlock))))) _ _ l0_1 t142 _ ?side1 A6.out).mono ?_
      (case side1 => exact (Kd.V_mono (ok' := fun k_ => ((P0_1_ k_ ∨ w.heap.size ≤ k_) ∧ (k_ ≠ gb134 ∧ (k_ ≠ gb135 ∧ (k_ ≠ gb136 ∧ some k_ ≠ (v146 : Value).ownBlock))))) (HO0_1.out) (fun k_ hk_ => ⟨hk_.1.1, ⟨hk_.1.2.2.1, ⟨hk_.1.2.2.2.1, ⟨hk_.1.2.2.2.2, hk_.2⟩⟩⟩⟩)))
      rintro e w24 ⟨v143, rfl, ho0, hb⟩
      refine ⟨_, rfl, ?_⟩
      have n0_ := Ax.mk (Kd.V_elder' (by exact Kd.V_to HO0_1.out) (Kd.N_base ho0) hb)
      have n1_ := Ax.mk (Kd.N_elder' (by exact Kd.N_to HO147.out) (Kd.N_base ho0) hb)
      have n2_ := Ax.mk (Kd.N_lower (Kd.N_mono (ok' := fun k_ => (P0_1_ k_ ∨ w.heap.size ≤ k_) ∧ some k_ ≠ (v146 : Value).ownBlock ∧ k_ ≠ gb134 ∧ k_ ≠ gb135 ∧ k_ ≠ gb136) ho0 (fun k_ hk_ => ⟨Or.elim hk_ (fun hs_ => hs_.1) (fun hn_ => (.inr (Nat.le_trans (bS bA) hn_))), Or.elim hk_ (fun hs_ => hs_.2.2.2.2) (fun hn_ => (Kd.fresh' (Kd.N_lt (by exact Kd.N_to HO147.out)) k_ hn_)), Or.elim hk_ (fun hs_ => hs_.2.1) (fun hn_ => (Kd.freshB (g := gb134) (o := .cells #[.int .u64 a0_0, .slice A0_1 l0_1.length c0_1, .string a0_2] 66 (0, 0)) (bT BK134.out) k_ hn_)), Or.elim hk_ (fun hs_ => hs_.2.2.1) (fun hn_ => (Kd.freshB (g := gb135) (o := .cells #[.int .u64 a1_0, .slice Ao18 t139.length co18] 44 (0, 0)) (bT BK135.out) k_ hn_)), Or.elim hk_ (fun hs_ => hs_.2.2.2.1) (fun hn_ => (Kd.freshB (g := gb136) (o := .cells #[.int .u64 0, .slice none 0 0, .string (⟨#[]⟩ : ByteArray)] 66 (0, 0)) (bT BK136.out) k_ hn_))⟩)) (bS bA))
      have n3_ := Ax.mk (bB (bT BK134.out) hb)
      have n4_ := Ax.mk (bB (bT BK135.out) hb)
      have n5_ := Ax.mk (bB (bT BK136.out) hb)
      have n6_ := Ax.mk (bP bA hb)
      clear HO0_1
      clear HO147
      clear BK134
      clear BK135
      clear BK136
      clear HB
      have HO0_1 := n0_
      have HO147 := n1_
      have HO144 := n2_
      have BK134 := n3_
      have BK135 := n4_
      have BK136 := n5_
      have HB := n6_
      clear n0_ n1_ n2_ n3_ n4_ n5_ n6_
      (try clear hb)
      (try clear hb2)
      (try clear hk)
      (try clear hi)
      (try clear ho0)
      refine hK.out _ _ ⟨(bC BK135.out 0).trans rfl, (bC BK135.out 1).trans rfl, (bC BK134.out 0).trans rfl, (bC BK134.out 1).trans rfl, (bC BK134.out 2).trans rfl⟩ (fun hHeld => ?_)
      clear hK K
      refine norm_ (a' := ?_) ?_ ?_
      rotate_left
      ·show Act.put _ (some 25) _ = _
       simp only [Act.put, sI, sZ, sS, i64_w, i32_w]
       rfl
      exact norm_ (by simp only [putAll, Act.put, sI, sZ, sS]) (hCont (v143, v146) _ ⟨hHeld, (by apply Kd.V_to; exact Kd.V_mono HO0_1.out (fun _ hk => ⟨hk.1.1.1, ⟨hk.2, ⟨hk.1.2, ⟨hk.1.1.2.2.1, ⟨hk.1.1.2.2.2.1, hk.1.1.2.2.2.2⟩⟩⟩⟩⟩)), (by exact Kd.N_to HO144.out), (by apply Kd.N_to; exact Kd.N_mono HO147.out (fun _ hk => ⟨hk.1.1, ⟨hk.2, ⟨hk.1.2.1, ⟨hk.1.2.2.1, hk.1.2.2.2⟩⟩⟩⟩)), (bT BK134.out), (bT BK135.out), (bT BK136.out), bA⟩)
    rintro ⟨v143, v146⟩ w25 ⟨hS_, h0_, h1_, h2_, h3_, h4_, h5_, h6_⟩
    have n0_ : Ax (Kd.V k44 44 w25 w.heap.size (fun k_ => (P0_1_ k_ ∨ w.heap.size ≤ k_) ∧ some k_ ≠ (v143 : Value).ownBlock ∧ some k_ ≠ (v146 : Value).ownBlock ∧ k_ ≠ gb134 ∧ k_ ≠ gb135 ∧ k_ ≠ gb136) (.slice A0_1 l0_1.length c0_1) l0_1) := ⟨h0_⟩
    have n1_ : Ax (Kd.N k44 44 w25 w.heap.size (fun k_ => (P0_1_ k_ ∨ w.heap.size ≤ k_) ∧ some k_ ≠ (v146 : Value).ownBlock ∧ k_ ≠ gb134 ∧ k_ ≠ gb135 ∧ k_ ≠ gb136) v143 t142) := ⟨h1_⟩
    have n2_ : Ax (Kd.N k44 44 w25 w.heap.size (fun k_ => (P0_1_ k_ ∨ w.heap.size ≤ k_) ∧ some k_ ≠ (v143 : Value).ownBlock ∧ k_ ≠ gb134 ∧ k_ ≠ gb135 ∧ k_ ≠ gb136) v146 y145) := ⟨h2_⟩
    have n3_ : Ax (w25.heap[gb134]? = some (.cells #[.int .u64 a0_0, .slice A0_1 l0_1.length c0_1, .string a0_2] 66 (0, 0))) := ⟨h3_⟩
    have n4_ : Ax (w25.heap[gb135]? = some (.cells #[.int .u64 a1_0, .slice Ao18 t139.length co18] 44 (0, 0))) := ⟨h4_⟩
    have n5_ : Ax (w25.heap[gb136]? = some (.cells #[.int .u64 0, .slice none 0 0, .string (⟨#[]⟩ : ByteArray)] 66 (0, 0))) := ⟨h5_⟩
    have n6_ : Ax (Below w.heap.size w w25) := ⟨h6_⟩
    clear HO0_1
    clear HO141
    clear BK134
    clear BK135
    clear BK136
    clear HB
    clear h0_ h1_ h2_ h3_ h4_ h5_ h6_
    have HO0_1 := n0_
    have HO144 := n1_
    have HO147 := n2_
    have BK134 := n3_
    have BK135 := n4_
    have BK136 := n5_
    have HB := n6_
    clear n0_ n1_ n2_ n3_ n4_ n5_ n6_
    have hHeld : w25.cell? ⟨gb135, 0, none⟩ = some (.int .u64 a1_0) ∧ w25.cell? ⟨gb135, 1, none⟩ = some (.slice Ao18 t139.length co18) ∧ w25.cell? ⟨gb134, 0, none⟩ = some (.int .u64 a0_0) ∧ w25.cell? ⟨gb134, 1, none⟩ = some (.slice A0_1 l0_1.length c0_1) ∧ w25.cell? ⟨gb134, 2, none⟩ = some (.string a0_2) := hS_
    obtain ⟨Ao27, co27, eo27⟩ := Kd.N_slice HO147.out
    (first | subst eo27 | (injection eo27 with f1_ f2_ f3_; have f4_ := f1_.symm; have f5_ := f3_.symm; clear f1_ f2_ f3_; subst f4_; subst f5_))
    refine norm_ (a' := ?_) ?_ ?_
    rotate_left
    ·simp only [putAll, Act.put, sI, sZ, sS]
     rfl
    refine one_ (i := 7) (N := some 28) (TF 12 3) rfl rfl (one_of HT_.out (by kernel_rfl)) (by decide) (fun K hK => ?_)
    refine Kd.N_append_rows_step k44 (w0 := w) w.heap.size (by rfl) (.tmp 25) (.tmp 27) 37 44 (.agg #[(.int .u64 0), (.slice none 0 0)]) 32 rfl Tryd.underlying37 info44 rfl (by decide) (by omega) v143 t142 y145 _ _ _ (fun k_ => (P0_1_ k_ ∨ w.heap.size ≤ k_) ∧ k_ ≠ gb134 ∧ k_ ≠ gb135 ∧ k_ ≠ gb136) (fun k_ => ((fun k_ => (P0_1_ k_ ∨ w.heap.size ≤ k_) ∧ k_ ≠ gb134 ∧ k_ ≠ gb135 ∧ k_ ≠ gb136)) k_ ∧ some k_ ≠ (v143 : Value).ownBlock) rfl rfl ?aO ?aR (fun _ hk => hk) ?aF ?aB ?aS ?aL ?_
    (case aR => exact (by skip; exact Kd.N_F (Kd.N_mono (ok' := (fun k_ => ((fun k_ => (P0_1_ k_ ∨ w.heap.size ≤ k_) ∧ k_ ≠ gb134 ∧ k_ ≠ gb135 ∧ k_ ≠ gb136)) k_ ∧ some k_ ≠ (v143 : Value).ownBlock)) (HO147.out) (fun k_ hk => ⟨⟨hk.1, ⟨hk.2.2.1, ⟨hk.2.2.2.1, hk.2.2.2.2⟩⟩⟩, hk.2.1⟩))))
    (case aB => exact bA)
    (case aF => exact (fun k_ hk => ⟨(.inr (Nat.le_trans (bS bA) hk)), Kd.freshB (g := gb134) (o := .cells #[.int .u64 a0_0, .slice A0_1 l0_1.length c0_1, .string a0_2] 66 (0, 0)) (bT BK134.out) k_ hk, Kd.freshB (g := gb135) (o := .cells #[.int .u64 a1_0, .slice Ao18 t139.length co18] 44 (0, 0)) (bT BK135.out) k_ hk, Kd.freshB (g := gb136) (o := .cells #[.int .u64 0, .slice none 0 0, .string (⟨#[]⟩ : ByteArray)] 66 (0, 0)) (bT BK136.out) k_ hk⟩))
    (case aO => exact (by apply Kd.N_to; exact Kd.N_mono HO144.out (fun _ hk => ⟨hk.1, ⟨hk.2.2.1, ⟨hk.2.2.2.1, hk.2.2.2.2⟩⟩⟩)))
    (case aS => exact (bS bA))
    (case aL => have := LMc7.out; omega)
    intro v149 w26 ho hb hg hat
    rw [← Ny148.out] at ho
    have n0_ := Ax.mk (Kd.V_afterv (ok := (fun k_ => (P0_1_ k_ ∨ w.heap.size ≤ k_) ∧ some k_ ≠ (.slice Ao27 y145.length co27 : Value).ownBlock ∧ k_ ≠ gb134 ∧ k_ ≠ gb135 ∧ k_ ≠ gb136)) (by apply Kd.V_to; exact Kd.V_mono HO0_1.out (fun _ hk => ⟨⟨hk.1, ⟨hk.2.2.1, ⟨hk.2.2.2.1, ⟨hk.2.2.2.2.1, hk.2.2.2.2.2⟩⟩⟩⟩, hk.2.1⟩)) hg hat)
    have n1_ := Ax.mk (blk_grown (g := gb134) (o := .cells #[.int .u64 a0_0, .slice A0_1 l0_1.length c0_1, .string a0_2] 66 (0, 0)) (bT BK134.out) hg (Kd.N_ne HO144.out BK134.out (by decide)))
    have n2_ := Ax.mk (blk_grown (g := gb135) (o := .cells #[.int .u64 a1_0, .slice Ao18 t139.length co18] 44 (0, 0)) (bT BK135.out) hg (Kd.N_away HO144.out (fun _ hk => hk.2.2.2.1)))
    have n3_ := Ax.mk (blk_grown (g := gb136) (o := .cells #[.int .u64 0, .slice none 0 0, .string (⟨#[]⟩ : ByteArray)] 66 (0, 0)) (bT BK136.out) hg (Kd.N_ne HO144.out BK136.out (by decide)))
    have n4_ := Ax.mk (Kd.N_afterv (ok := (fun k_ => (P0_1_ k_ ∨ w.heap.size ≤ k_) ∧ k_ ≠ gb134 ∧ k_ ≠ gb135 ∧ k_ ≠ gb136)) (by apply Kd.N_to; exact Kd.N_mono HO147.out (fun _ hk => ⟨⟨hk.1, ⟨hk.2.2.1, ⟨hk.2.2.2.1, hk.2.2.2.2⟩⟩⟩, hk.2.1⟩)) hg hat)
    have n5_ := Ax.mk (hb)
    have n6_ := Ax.mk (ho)
    clear HO0_1
    clear BK134
    clear BK135
    clear BK136
    clear HO147
    clear HB
    clear HO144
    have HO0_1 := n0_
    have BK134 := n1_
    have BK135 := n2_
    have BK136 := n3_
    have HO147 := n4_
    have HB := n5_
    have HO150 := n6_
    clear n0_ n1_ n2_ n3_ n4_ n5_ n6_
    clear ho hb hg hat
    obtain ⟨Ao28, co28, eo28⟩ := Kd.N_slice HO150.out
    (first | subst eo28 | (injection eo28 with f1_ f2_ f3_; have f4_ := f1_.symm; have f5_ := f3_.symm; clear f1_ f2_ f3_; subst f4_; subst f5_))
    refine hK.out _ _ ⟨(bC BK135.out 0).trans rfl, (bC BK135.out 1).trans rfl, (bC BK134.out 0).trans rfl, (bC BK134.out 1).trans rfl, (bC BK134.out 2).trans rfl⟩ (fun hHeld => ?_)
    clear hK K
    refine norm_ (a' := ?_) ?_ ?_
    rotate_left
    ·show Act.put _ (some 28) _ = _
     simp only [Act.put, sI, sZ, sS, i64_w, i32_w]
     rfl
    refine pure_ (i := 12) (N := some 33) (v := ?_) (a' := ?_) (TF 13 2) rfl rfl (any_of HT_.out (by kernel_rfl)) (fun _ _ _ h => h) (Or.inl ⟨by rfl, ?_⟩) ?_ ?_
    rotate_left; · intro w'; go_simp; with_reducible rfl
    rotate_left; · simp only [Act.put, sI, sZ, sS, i64_w, i32_w]; rfl
    refine one_ (i := 13) (N := none) (TF 14 1) rfl rfl (one_of HT_.out (by kernel_rfl)) (by decide) (fun K hK => ?_)
    have hs29 : w26.cell? ⟨gb136, 0, none⟩ = some (.int .u64 0) := (bC BK136.out 0).trans rfl
    have hfs29 := bF BK136.out 0
    have hns29_0 := NB134_136.out
    have hns29_1 := NB135_136.out
    have hms29_0 := NB136_134.out
    have hms29_1 := NB136_135.out
    have hs30 : w26.cell? ⟨gb136, 1, none⟩ = some (.slice none 0 0) := (bC BK136.out 1).trans rfl
    have hfs30 := bF BK136.out 1
    have hns30_0 := NB134_136.out
    have hns30_1 := NB135_136.out
    have hms30_0 := NB136_134.out
    have hms30_1 := NB136_135.out
    have hs31 : w26.cell? ⟨gb136, 2, none⟩ = some (.string (⟨#[]⟩ : ByteArray)) := (bC BK136.out 2).trans rfl
    have hfs31 := bF BK136.out 2
    have hns31_0 := NB134_136.out
    have hns31_1 := NB135_136.out
    have hms31_0 := NB136_134.out
    have hms31_1 := NB136_135.out
    refine skip_ (w1 := ?_) (by rfl) rfl ?_ ?_
    rotate_left
    ·go_simp
     rfl
    refine hK.out _ _ ⟨((cell_far (p := ⟨gb136, _, none⟩) NB135_136.out _).trans (((cell_far (p := ⟨gb136, _, none⟩) NB135_136.out _).trans (((cell_far (p := ⟨gb136, _, none⟩) NB135_136.out _).trans (hHeld.1)))))), ((cell_far (p := ⟨gb136, _, none⟩) NB135_136.out _).trans (((cell_far (p := ⟨gb136, _, none⟩) NB135_136.out _).trans (((cell_far (p := ⟨gb136, _, none⟩) NB135_136.out _).trans (hHeld.2.1)))))), ((cell_far (p := ⟨gb136, _, none⟩) NB134_136.out _).trans (((cell_far (p := ⟨gb136, _, none⟩) NB134_136.out _).trans (((cell_far (p := ⟨gb136, _, none⟩) NB134_136.out _).trans (hHeld.2.2.1)))))), ((cell_far (p := ⟨gb136, _, none⟩) NB134_136.out _).trans (((cell_far (p := ⟨gb136, _, none⟩) NB134_136.out _).trans (((cell_far (p := ⟨gb136, _, none⟩) NB134_136.out _).trans (hHeld.2.2.2.1)))))), ((cell_far (p := ⟨gb136, _, none⟩) NB134_136.out _).trans (((cell_far (p := ⟨gb136, _, none⟩) NB134_136.out _).trans (((cell_far (p := ⟨gb136, _, none⟩) NB134_136.out _).trans (hHeld.2.2.2.2))))))⟩ (fun hHeld => ?_)
    clear hK K
    refine pure_ (i := 14) (N := some 5) (v := ?_) (a' := ?_) (TF 15 0) rfl rfl (any_of HT_.out (by kernel_rfl)) (fun _ _ _ h => h) (Or.inl ⟨by rfl, ?_⟩) ?_ ?_
    rotate_left; · intro w'; go_simp; with_reducible rfl
    rotate_left; · simp only [Act.put, sI, sZ, sS, i64_w, i32_w]; rfl
    refine done_ (done_of HT_.out (by kernel_rfl)) ?_
    try go_wp2
    refine bodyPost_ret (results_ct rfl _ _ gb136 66 #[.int .u64 a1_0, .slice Ao28 y148.length co28, .string (a0_2 ++ t137)] (0, 0) _ rfl (by refine bT ?_; refine bU (cs := #[.int .u64 a1_0, .slice Ao28 y148.length co28, .string (⟨#[]⟩ : ByteArray)]) ?_ 2 _ rfl; refine bT ?_; refine bU (cs := #[.int .u64 a1_0, .slice none 0 0, .string (⟨#[]⟩ : ByteArray)]) ?_ 1 _ rfl; refine bT ?_; refine bU (cs := #[.int .u64 0, .slice none 0 0, .string (⟨#[]⟩ : ByteArray)]) ?_ 0 _ rfl; exact bT BK136.out) Tryd.underlying66 rfl (by kernel_rfl)) rfl ?_
    exact ⟨_, by first | rfl | (simp [errW_none, errW_some] <;> rfl) | (simp [*, errW_none, errW_some] <;> rfl), by apply Kd.N_to; exact Kd.N_mono (Kd.N_far (p := ⟨gb136, 2, none⟩) (Kd.N_far (p := ⟨gb136, 1, none⟩) (Kd.N_far (p := ⟨gb136, 0, none⟩) (Kd.N_mono HO150.out (fun k_ hk => (⟨hk, hk.2.2.2⟩ : _ ∧ k_ ≠ gb136))) (fun _ hk => hk.2) (.int .u64 a1_0)) (fun _ hk => hk.2) (.slice Ao28 y148.length co28)) (fun _ hk => hk.2) (.string (a0_2 ++ t137))) (fun _ hk => hk.1.1), bA⟩
   ·rw [if_neg c8] at H
    exact absurd H (by simp)
  ·rw [if_neg c7] at H
   exact absurd H (by simp)
 ·rw [if_neg c4] at H
  have c4b0 : (t138 == 0) = false := beq_eq_false_iff_ne.mpr c4
  have c4b1 : (t138 != 0) = true := bne_iff_ne.mpr c4
  simp only [Option.some.injEq, Prod.mk.injEq] at H
  obtain ⟨rfl, rfl, rfl, rfl⟩ := H
  go_enter Tryd.func62, Tryd.ntmps62
  go_wp2_with (first | ((with_reducible refine gate_dst (N := 2) rfl ?_); refine box_event ?hg (N := 2) ?hd (cs := #[.int .u64 a0_0, .slice A0_1 l0_1.length c0_1, .string a0_2]) (t := 66) ?hr ?_; (case hd => rfl); (case hg => rfl); (case hr => first | (go_simp; done) | (go_simp; rfl)); intro gb134 hg w32 hbox hb; have n0_ := Ax.mk (Kd.V_below (Kd.V_elderB (by exact Kd.V_to HO0_1.out) gb134 (Nat.le_of_eq hg.symm)) hb); have n1_ := Ax.mk (bP bA hb); have n2_ := Ax.mk (hbox); have n3_ := Ax.mk ((ge_new hg : w.heap.size ≤ gb134)); have n4_ := n3_; clear HO0_1; clear HB; have HO0_1 := n0_; have HB := n1_; have BK134 := n2_; have GW134 := n3_; have GE134 := n4_; clear n0_ n1_ n2_ n3_ n4_; clear hb hbox hg) | ((with_reducible refine gate_dst (N := 3) rfl ?_); refine box_event ?hg (N := 3) ?hd (cs := #[.int .u64 a1_0, .slice A1_1 l1_1.length c1_1]) (t := 44) ?hr ?_; (case hd => rfl); (case hg => rfl); (case hr => first | (go_simp; done) | (go_simp; rfl)); intro gb135 hg w33 hbox hb; have n0_ := Ax.mk (Kd.V_below (Kd.V_elderB (by exact Kd.V_to HO0_1.out) gb135 (Nat.le_of_eq hg.symm)) hb); have n1_ := Ax.mk (bB (bT BK134.out) hb); have n2_ := Ax.mk (bP bA hb); have n3_ := Ax.mk (hbox); have n4_ := Ax.mk ((ge_new hg : w.heap.size ≤ gb135)); have n5_ := n4_; have n6_ := Ax.mk ((ne_lt hg BK134.out : gb134 ≠ gb135)); have n7_ := Ax.mk ((ne_gt hg BK134.out : gb135 ≠ gb134)); clear HO0_1; clear BK134; clear HB; have HO0_1 := n0_; have BK134 := n1_; have HB := n2_; have BK135 := n3_; have GW135 := n4_; have GE135 := n5_; have NB134_135 := n6_; have NB135_134 := n7_; clear n0_ n1_ n2_ n3_ n4_ n5_ n6_ n7_; clear hb hbox hg) | ((with_reducible refine gate_dst (N := 4) rfl ?_); refine box_event ?hg (N := 4) ?hd (cs := #[.int .u64 0, .slice none 0 0, .string (⟨#[]⟩ : ByteArray)]) (t := 66) ?hr ?_; (case hd => rfl); (case hg => rfl); (case hr => first | (go_simp; done) | (go_simp; rfl)); intro gb136 hg w34 hbox hb; have n0_ := Ax.mk (Kd.V_below (Kd.V_elderB (by exact Kd.V_to HO0_1.out) gb136 (Nat.le_of_eq hg.symm)) hb); have n1_ := Ax.mk (bB (bT BK134.out) hb); have n2_ := Ax.mk (bB (bT BK135.out) hb); have n3_ := Ax.mk (bP bA hb); have n4_ := Ax.mk (hbox); have n5_ := Ax.mk ((ge_new hg : w.heap.size ≤ gb136)); have n6_ := n5_; have n7_ := Ax.mk ((ne_lt hg BK134.out : gb134 ≠ gb136)); have n8_ := Ax.mk ((ne_gt hg BK134.out : gb136 ≠ gb134)); have n9_ := Ax.mk ((ne_lt hg BK135.out : gb135 ≠ gb136)); have n10_ := Ax.mk ((ne_gt hg BK135.out : gb136 ≠ gb135)); clear HO0_1; clear BK134; clear BK135; clear HB; have HO0_1 := n0_; have BK134 := n1_; have BK135 := n2_; have HB := n3_; have BK136 := n4_; have GW136 := n5_; have GE136 := n6_; have NB134_136 := n7_; have NB136_134 := n8_; have NB135_136 := n9_; have NB136_135 := n10_; clear n0_ n1_ n2_ n3_ n4_ n5_ n6_ n7_ n8_ n9_ n10_; clear hb hbox hg; have hnb35 := NB135_134.out; have hnc35 := NB134_135.out; have hnb36 := NB135_136.out; have hnc36 := NB136_135.out; have hcz37_0 : w34.cell? ⟨gb135, 0, none⟩ = some (.int .u64 a1_0) := (bC BK135.out 0).trans rfl; have hcz37_1 : w34.cell? ⟨gb135, 1, none⟩ = some (.slice A1_1 l1_1.length c1_1) := (bC BK135.out 1).trans rfl; have hfz37_0 := bF BK135.out 0; have hfz37_1 := bF BK135.out 1) | ((with_reducible refine gate_callee (f := 74) rfl ?_); refine goesL_ (some 10) rfl rfl Tryd.func74 (by kernel_rfl) rfl #[.agg #[.int .u64 a1_0, .slice A1_1 l1_1.length c1_1]] rfl (by (try simp only [List.map_toArray, List.map_cons, List.map_nil]); first | done | rfl | (simp only [List.length_drop, List.length_take]; rfl) | (rw [wrap_sum2 (by assumption)]; rfl)) ?_; (with_reducible refine (journal_closed.calls k a1_0 _ _ l1_1 t137 t138 _ ?side1 ?side2 A3.out (HT.below bA)).mono ?_); (case side1 => repeat (first | exact (Kd.C_below HR1_1.out HB.out) | (with_reducible refine Kd.C_alloc ?_ _) | (with_reducible refine Kd.C_drewN ?_ _) | (with_reducible refine Kd.C_drew ?_))); (case side2 => exact HC1_1.out); rintro e w38 ⟨rfl, hb⟩; refine ⟨_, rfl, ?_⟩; have n0_ := Ax.mk (Kd.V_below (by exact Kd.V_to HO0_1.out) hb); have n1_ := Ax.mk (bB (bT BK134.out) hb); have n2_ := Ax.mk (bB (bT BK135.out) hb); have n3_ := Ax.mk (bB (bT BK136.out) hb); have n4_ := Ax.mk (bP bA hb); clear HO0_1; clear BK134; clear BK135; clear BK136; clear HB; have HO0_1 := n0_; have BK134 := n1_; have BK135 := n2_; have BK136 := n3_; have HB := n4_; clear n0_ n1_ n2_ n3_ n4_; (try clear hb); (try clear hb2); (try clear hk); (try clear hi); have hnb39 := NB136_134.out; have hnc39 := NB134_136.out; have hcz40_0 : w38.cell? ⟨gb136, 0, none⟩ = some (.int .u64 0) := (bC BK136.out 0).trans rfl; have hcz40_1 : w38.cell? ⟨gb136, 1, none⟩ = some (.slice none 0 0) := (bC BK136.out 1).trans rfl; have hcz40_2 : w38.cell? ⟨gb136, 2, none⟩ = some (.string (⟨#[]⟩ : ByteArray)) := (bC BK136.out 2).trans rfl; have hfz40_0 := bF BK136.out 0; have hfz40_1 := bF BK136.out 1; have hfz40_2 := bF BK136.out 2))
  refine bodyPost_ret (results_ct rfl _ _ gb136 66 #[.int .u64 0, .slice none 0 0, .string (⟨#[]⟩ : ByteArray)] (0, 0) _ rfl (by refine bT ?_; refine bU (cs := #[.int .u64 0, .slice none 0 0, .string (⟨#[]⟩ : ByteArray)]) ?_ 2 _ rfl; refine bT ?_; refine bU (cs := #[.int .u64 0, .slice none 0 0, .string (⟨#[]⟩ : ByteArray)]) ?_ 1 _ rfl; refine bT ?_; refine bU (cs := #[.int .u64 0, .slice none 0 0, .string (⟨#[]⟩ : ByteArray)]) ?_ 0 _ rfl; exact bT BK136.out) Tryd.underlying66 rfl (by kernel_rfl)) rfl ?_
  exact ⟨_, by first | rfl | (simp [errW_none, errW_some] <;> rfl) | (simp [*, errW_none, errW_some] <;> rfl), by first | exact Kd.S_nil _ _ _ _ _ | exact Kd.N_nil _ _ _ _ _ | exact Kd.V_nil _ _ _ _ _ | exact Kd.Q_nil _ _ _ _ _ | exact Kd.R_nil _ _ _ _ _, bA⟩
def journal_Add.f (k : Nat) (a0_0 : Int) (l0_1 : List (S44)) (a0_2 : ByteArray) (l1 : List (S24)) : Option (Int × (List (S44)) × ByteArray × Int) := (journal_Log_with.f k a0_0 l0_1 a0_2 (IntKind.u64.wrap (a0_0 + 1)) l1).bind fun bt160 => (if bt160.2.2.2 = 0 then (if a0_0 = 18446744073709551615 then (some (0, ([] : List (S44)), (⟨#[]⟩ : ByteArray), 14)) else (some (bt160.1, bt160.2.1, bt160.2.2.1, 0))) else (some (0, ([] : List (S44)), (⟨#[]⟩ : ByteArray), bt160.2.2.2)))
theorem journal_Add.mono : ∀ a0 a1 a2 a3 k, LeO (journal_Add.f k a0 a1 a2 a3) (journal_Add.f (k + 1) a0 a1 a2 a3) := by
 intro a0 a1 a2 a3 k
 unfold journal_Add.f
 repeat' first
   | (with_reducible exact journal_Log_with.mono _ _ _ _ _ _)
   | (with_reducible exact LeO.refl _)
   | (with_reducible exact LeO.none _)
   | (with_reducible refine LeO.ite ?_ ?_)
   | (with_reducible refine LeO.bind ?_ (fun _ => ?_))
   | exact journal_Log_with.mono _ _ _ _ _ _
   | exact LeO.none _
   | refine LeO.ite ?_ ?_
   | refine LeO.bind ?_ (fun _ => ?_)
set_option maxHeartbeats 8000000 in
set_option maxRecDepth 100000 in
theorem journal_Add.calls (k : Nat) (a0_0 : Int) (P0_1_ : Nat → Prop) (A0_1 : Option Addr) (c0_1 : Nat) (l0_1 : List (S44)) (a0_2 : ByteArray) (A1 : Option Addr) (c1 : Nat) (l1 : List (S24)) (r1 : Int) (r2 : List (S44)) (r3 : ByteArray) (r4 : Int) (w : World) (hs0_1 : Kd.V k44 44 w w.heap.size (fun k_ => P0_1_ k_) (.slice A0_1 l0_1.length c0_1) l0_1) (hr1 : Kd.C k24 w A1 l1.length l1) (hc1 : l1.length ≤ c1) (h : journal_Add.f k a0_0 l0_1 a0_2 l1 = some (r1, r2, r3, r4)) (HT : Tabs w) :
  Calls Tryd.prog 39 #[.agg #[.int .u64 a0_0, .slice A0_1 l0_1.length c0_1, .string a0_2], .slice A1 l1.length c1] w fun e w' => ∃ v1_ : Value, e = .returned (.tuple #[.agg #[.int .u64 r1, v1_, .string r3], .int .i64 r4]) ∧ Kd.N k44 44 w' w.heap.size (fun k_ => (P0_1_ k_ ∨ w.heap.size ≤ k_)) v1_ r2 ∧ Below w.heap.size w w' := by
 have hu66 := Tryd.underlying66
 have hu44 := Tryd.underlying44
 have HO0_1 := Ax.mk (show Kd.V k44 44 w w.heap.size (fun k_ => (P0_1_ k_ ∨ w.heap.size ≤ k_)) (.slice A0_1 l0_1.length c0_1) l0_1 from Kd.V_mono hs0_1 (fun k_ hk => .inl hk))
 have HR1 := Ax.mk hr1
 have HC1 := Ax.mk hc1
 clear hr1 hc1
 have HB := Ax.mk (Below.refl w.heap.size w)
 have H : ((journal_Log_with.f k a0_0 l0_1 a0_2 (IntKind.u64.wrap (a0_0 + 1)) l1).bind fun bt160 => (if bt160.2.2.2 = 0 then (if a0_0 = 18446744073709551615 then (some (0, ([] : List (S44)), (⟨#[]⟩ : ByteArray), 14)) else (some (bt160.1, bt160.2.1, bt160.2.2.1, 0))) else (some (0, ([] : List (S44)), (⟨#[]⟩ : ByteArray), bt160.2.2.2)))) = some (r1, r2, r3, r4) := h
 clear h
 replace H := Option.bind_eq_some_iff.mp H
 obtain ⟨⟨t160, t161, t164, t165⟩, A30, H⟩ := H
 replace H : (if t165 = 0 then (if a0_0 = 18446744073709551615 then (some (0, ([] : List (S44)), (⟨#[]⟩ : ByteArray), 14)) else (some (t160, t161, t164, 0))) else (some (0, ([] : List (S44)), (⟨#[]⟩ : ByteArray), t165))) = some (r1, r2, r3, r4) := H
 have A3 := Ax.mk A30
 clear A30
 by_cases c4 : t165 = 0
 ·rw [if_pos c4] at H
  have c4b0 : (t165 == 0) = true := beq_iff_eq.mpr c4
  have c4b1 : (t165 != 0) = false := bne_eq_false_iff_eq.mpr c4
  clear c4
  by_cases c5 : a0_0 = 18446744073709551615
  ·rw [if_pos c5] at H
   have c5b0 : (a0_0 == 18446744073709551615) = true := beq_iff_eq.mpr c5
   have c5b1 : (a0_0 != 18446744073709551615) = false := bne_eq_false_iff_eq.mpr c5
   clear c5
   simp only [Option.some.injEq, Prod.mk.injEq] at H
   obtain ⟨rfl, rfl, rfl, rfl⟩ := H
   go_enter Tryd.func39, Tryd.ntmps39
   go_wp2_with (first | ((with_reducible refine gate_dst (N := 2) rfl ?_); refine box_event ?hg (N := 2) ?hd (cs := #[.int .u64 a0_0, .slice A0_1 l0_1.length c0_1, .string a0_2]) (t := 66) ?hr ?_; (case hd => rfl); (case hg => rfl); (case hr => first | (go_simp; done) | (go_simp; rfl)); intro gb158 hg w6 hbox hb; have n0_ := Ax.mk (Kd.V_below (Kd.V_elderB (by exact Kd.V_to HO0_1.out) gb158 (Nat.le_of_eq hg.symm)) hb); have n1_ := Ax.mk (bP bA hb); have n2_ := Ax.mk (hbox); have n3_ := Ax.mk ((ge_new hg : w.heap.size ≤ gb158)); have n4_ := n3_; clear HO0_1; clear HB; have HO0_1 := n0_; have HB := n1_; have BK158 := n2_; have GW158 := n3_; have GE158 := n4_; clear n0_ n1_ n2_ n3_ n4_; clear hb hbox hg) | ((with_reducible refine gate_dst (N := 4) rfl ?_); refine box_event ?hg (N := 4) ?hd (cs := #[.int .u64 0, .slice none 0 0, .string (⟨#[]⟩ : ByteArray)]) (t := 66) ?hr ?_; (case hd => rfl); (case hg => rfl); (case hr => first | (go_simp; done) | (go_simp; rfl)); intro gb159 hg w7 hbox hb; have n0_ := Ax.mk (Kd.V_below (Kd.V_elderB (by exact Kd.V_to HO0_1.out) gb159 (Nat.le_of_eq hg.symm)) hb); have n1_ := Ax.mk (bB (bT BK158.out) hb); have n2_ := Ax.mk (bP bA hb); have n3_ := Ax.mk (hbox); have n4_ := Ax.mk ((ge_new hg : w.heap.size ≤ gb159)); have n5_ := n4_; have n6_ := Ax.mk ((ne_lt hg BK158.out : gb158 ≠ gb159)); have n7_ := Ax.mk ((ne_gt hg BK158.out : gb159 ≠ gb158)); clear HO0_1; clear BK158; clear HB; have HO0_1 := n0_; have BK158 := n1_; have HB := n2_; have BK159 := n3_; have GW159 := n4_; have GE159 := n5_; have NB158_159 := n6_; have NB159_158 := n7_; clear n0_ n1_ n2_ n3_ n4_ n5_ n6_ n7_; clear hb hbox hg; have hnb8 := NB158_159.out; have hnc8 := NB159_158.out; have hcz9_0 : w7.cell? ⟨gb158, 0, none⟩ = some (.int .u64 a0_0) := (bC BK158.out 0).trans rfl; have hcz9_1 : w7.cell? ⟨gb158, 1, none⟩ = some (.slice A0_1 l0_1.length c0_1) := (bC BK158.out 1).trans rfl; have hcz9_2 : w7.cell? ⟨gb158, 2, none⟩ = some (.string a0_2) := (bC BK158.out 2).trans rfl; have hfz9_0 := bF BK158.out 0; have hfz9_1 := bF BK158.out 1; have hfz9_2 := bF BK158.out 2) | ((with_reducible refine gate_callee (f := 62) rfl ?_); refine goesL_ (some 15) rfl rfl Tryd.func62 (by kernel_rfl) rfl #[.agg #[.int .u64 a0_0, .slice A0_1 l0_1.length c0_1, .string a0_2], .agg #[.int .u64 (IntKind.u64.wrap (a0_0 + 1)), .slice A1 l1.length c1]] rfl (by (try simp only [List.map_toArray, List.map_cons, List.map_nil]); first | done | rfl | (simp only [List.length_drop, List.length_take]; rfl) | (rw [wrap_sum2 (by assumption)]; rfl)) ?_; (with_reducible refine (journal_Log_with.calls k a0_0 (fun k_ => (((P0_1_ k_ ∨ w.heap.size ≤ k_) ∧ k_ ≠ gb158) ∧ k_ ≠ gb159)) _ _ l0_1 a0_2 (IntKind.u64.wrap (a0_0 + 1)) _ _ l1 t160 t161 t164 t165 _ ?side1 ?side2 ?side3 A3.out (HT.below bA)).mono ?_); (case side1 => exact HO0_1.out); (case side2 => repeat (first | exact (Kd.C_below HR1.out HB.out) | (with_reducible refine Kd.C_alloc ?_ _) | (with_reducible refine Kd.C_drewN ?_ _) | (with_reducible refine Kd.C_drew ?_))); (case side3 => exact HC1.out); rintro e w10 ⟨v162, rfl, ho0, hb⟩; refine ⟨_, rfl, ?_⟩; have n0_ := Ax.mk (Kd.V_elder' (by exact Kd.V_to HO0_1.out) (Kd.N_base ho0) hb); have n1_ := Ax.mk (Kd.N_lower (Kd.N_mono (ok' := fun k_ => (P0_1_ k_ ∨ w.heap.size ≤ k_) ∧ k_ ≠ gb158 ∧ k_ ≠ gb159) ho0 (fun k_ hk_ => ⟨Or.elim hk_ (fun hs_ => hs_.1.1) (fun hn_ => (.inr (Nat.le_trans (bS bA) hn_))), Or.elim hk_ (fun hs_ => hs_.1.2) (fun hn_ => (Kd.freshB (g := gb158) (o := .cells #[.int .u64 a0_0, .slice A0_1 l0_1.length c0_1, .string a0_2] 66 (0, 0)) (bT BK158.out) k_ hn_)), Or.elim hk_ (fun hs_ => hs_.2) (fun hn_ => (Kd.freshB (g := gb159) (o := .cells #[.int .u64 0, .slice none 0 0, .string (⟨#[]⟩ : ByteArray)] 66 (0, 0)) (bT BK159.out) k_ hn_))⟩)) (bS bA)); have n2_ := Ax.mk (bB (bT BK158.out) hb); have n3_ := Ax.mk (bB (bT BK159.out) hb); have n4_ := Ax.mk (bP bA hb); clear HO0_1; clear BK158; clear BK159; clear HB; have HO0_1 := n0_; have HO163 := n1_; have BK158 := n2_; have BK159 := n3_; have HB := n4_; clear n0_ n1_ n2_ n3_ n4_; (try clear hb); (try clear hb2); (try clear hk); (try clear hi); (try clear ho0)) | ((with_reducible refine gate_dst (N := 6) rfl ?_); refine box_event ?hg (N := 6) ?hd (cs := #[.int .u64 0, .slice none 0 0, .string (⟨#[]⟩ : ByteArray)]) (t := 66) ?hr ?_; (case hd => rfl); (case hg => rfl); (case hr => first | (go_simp; done) | (go_simp; rfl)); intro gb166 hg w11 hbox hb; have n0_ := Ax.mk (Kd.V_below (Kd.V_elderB (by exact Kd.V_to HO0_1.out) gb166 (Nat.le_of_eq hg.symm)) hb); have n1_ := Ax.mk (Kd.N_below (Kd.N_elderB (by exact Kd.N_to HO163.out) gb166 (Nat.le_of_eq hg.symm)) hb); have n2_ := Ax.mk (bB (bT BK158.out) hb); have n3_ := Ax.mk (bB (bT BK159.out) hb); have n4_ := Ax.mk (bP bA hb); have n5_ := Ax.mk (hbox); have n6_ := Ax.mk ((ge_new hg : w.heap.size ≤ gb166)); have n7_ := n6_; have n8_ := Ax.mk ((ne_lt hg BK158.out : gb158 ≠ gb166)); have n9_ := Ax.mk ((ne_gt hg BK158.out : gb166 ≠ gb158)); have n10_ := Ax.mk ((ne_lt hg BK159.out : gb159 ≠ gb166)); have n11_ := Ax.mk ((ne_gt hg BK159.out : gb166 ≠ gb159)); clear HO0_1; clear HO163; clear BK158; clear BK159; clear HB; have HO0_1 := n0_; have HO163 := n1_; have BK158 := n2_; have BK159 := n3_; have HB := n4_; have BK166 := n5_; have GW166 := n6_; have GE166 := n7_; have NB158_166 := n8_; have NB166_158 := n9_; have NB159_166 := n10_; have NB166_159 := n11_; clear n0_ n1_ n2_ n3_ n4_ n5_ n6_ n7_ n8_ n9_ n10_ n11_; clear hb hbox hg; have hnb12 := NB166_158.out; have hnc12 := NB158_166.out; have hnb13 := NB166_159.out; have hnc13 := NB159_166.out; have hcz14_0 : w11.cell? ⟨gb166, 0, none⟩ = some (.int .u64 0) := (bC BK166.out 0).trans rfl; have hcz14_1 : w11.cell? ⟨gb166, 1, none⟩ = some (.slice none 0 0) := (bC BK166.out 1).trans rfl; have hcz14_2 : w11.cell? ⟨gb166, 2, none⟩ = some (.string (⟨#[]⟩ : ByteArray)) := (bC BK166.out 2).trans rfl; have hfz14_0 := bF BK166.out 0; have hfz14_1 := bF BK166.out 1; have hfz14_2 := bF BK166.out 2; obtain ⟨Ao15, co15, eo15⟩ := Kd.N_slice HO163.out; subst eo15; have hcz16_0 : w11.cell? ⟨gb158, 0, none⟩ = some (.int .u64 a0_0) := (bC BK158.out 0).trans rfl; have hcz16_1 : w11.cell? ⟨gb158, 1, none⟩ = some (.slice A0_1 l0_1.length c0_1) := (bC BK158.out 1).trans rfl; have hcz16_2 : w11.cell? ⟨gb158, 2, none⟩ = some (.string a0_2) := (bC BK158.out 2).trans rfl; have hfz16_0 := bF BK158.out 0; have hfz16_1 := bF BK158.out 1; have hfz16_2 := bF BK158.out 2; have hcz17_0 : w11.cell? ⟨gb159, 0, none⟩ = some (.int .u64 0) := (bC BK159.out 0).trans rfl; have hcz17_1 : w11.cell? ⟨gb159, 1, none⟩ = some (.slice none 0 0) := (bC BK159.out 1).trans rfl; have hcz17_2 : w11.cell? ⟨gb159, 2, none⟩ = some (.string (⟨#[]⟩ : ByteArray)) := (bC BK159.out 2).trans rfl; have hfz17_0 := bF BK159.out 0; have hfz17_1 := bF BK159.out 1; have hfz17_2 := bF BK159.out 2))
   refine bodyPost_ret (results_ct rfl _ _ gb159 66 #[.int .u64 0, .slice none 0 0, .string (⟨#[]⟩ : ByteArray)] (0, 0) _ rfl (by refine bT ?_; refine bU (cs := #[.int .u64 0, .slice none 0 0, .string (⟨#[]⟩ : ByteArray)]) ?_ 2 _ rfl; refine bT ?_; refine bU (cs := #[.int .u64 0, .slice none 0 0, .string (⟨#[]⟩ : ByteArray)]) ?_ 1 _ rfl; refine bT ?_; refine bU (cs := #[.int .u64 0, .slice none 0 0, .string (⟨#[]⟩ : ByteArray)]) ?_ 0 _ rfl; refine bT ?_; refine bR ?_ NB159_166.out _; refine bT ?_; refine bR ?_ NB159_166.out _; refine bT ?_; refine bR ?_ NB159_166.out _; exact bT BK159.out) Tryd.underlying66 rfl (by kernel_rfl)) rfl ?_
   exact ⟨_, by first | rfl | (simp [errW_none, errW_some] <;> rfl) | (simp [*, errW_none, errW_some] <;> rfl), by first | exact Kd.S_nil _ _ _ _ _ | exact Kd.N_nil _ _ _ _ _ | exact Kd.V_nil _ _ _ _ _ | exact Kd.Q_nil _ _ _ _ _ | exact Kd.R_nil _ _ _ _ _, bA⟩
  ·rw [if_neg c5] at H
   have c5b0 : (a0_0 == 18446744073709551615) = false := beq_eq_false_iff_ne.mpr c5
   have c5b1 : (a0_0 != 18446744073709551615) = true := bne_iff_ne.mpr c5
   simp only [Option.some.injEq, Prod.mk.injEq] at H
   obtain ⟨rfl, rfl, rfl, rfl⟩ := H
   go_enter Tryd.func39, Tryd.ntmps39
   go_wp2_with (first | ((with_reducible refine gate_dst (N := 2) rfl ?_); refine box_event ?hg (N := 2) ?hd (cs := #[.int .u64 a0_0, .slice A0_1 l0_1.length c0_1, .string a0_2]) (t := 66) ?hr ?_; (case hd => rfl); (case hg => rfl); (case hr => first | (go_simp; done) | (go_simp; rfl)); intro gb158 hg w18 hbox hb; have n0_ := Ax.mk (Kd.V_below (Kd.V_elderB (by exact Kd.V_to HO0_1.out) gb158 (Nat.le_of_eq hg.symm)) hb); have n1_ := Ax.mk (bP bA hb); have n2_ := Ax.mk (hbox); have n3_ := Ax.mk ((ge_new hg : w.heap.size ≤ gb158)); have n4_ := n3_; clear HO0_1; clear HB; have HO0_1 := n0_; have HB := n1_; have BK158 := n2_; have GW158 := n3_; have GE158 := n4_; clear n0_ n1_ n2_ n3_ n4_; clear hb hbox hg) | ((with_reducible refine gate_dst (N := 4) rfl ?_); refine box_event ?hg (N := 4) ?hd (cs := #[.int .u64 0, .slice none 0 0, .string (⟨#[]⟩ : ByteArray)]) (t := 66) ?hr ?_; (case hd => rfl); (case hg => rfl); (case hr => first | (go_simp; done) | (go_simp; rfl)); intro gb159 hg w19 hbox hb; have n0_ := Ax.mk (Kd.V_below (Kd.V_elderB (by exact Kd.V_to HO0_1.out) gb159 (Nat.le_of_eq hg.symm)) hb); have n1_ := Ax.mk (bB (bT BK158.out) hb); have n2_ := Ax.mk (bP bA hb); have n3_ := Ax.mk (hbox); have n4_ := Ax.mk ((ge_new hg : w.heap.size ≤ gb159)); have n5_ := n4_; have n6_ := Ax.mk ((ne_lt hg BK158.out : gb158 ≠ gb159)); have n7_ := Ax.mk ((ne_gt hg BK158.out : gb159 ≠ gb158)); clear HO0_1; clear BK158; clear HB; have HO0_1 := n0_; have BK158 := n1_; have HB := n2_; have BK159 := n3_; have GW159 := n4_; have GE159 := n5_; have NB158_159 := n6_; have NB159_158 := n7_; clear n0_ n1_ n2_ n3_ n4_ n5_ n6_ n7_; clear hb hbox hg; have hnb20 := NB158_159.out; have hnc20 := NB159_158.out; have hcz21_0 : w19.cell? ⟨gb158, 0, none⟩ = some (.int .u64 a0_0) := (bC BK158.out 0).trans rfl; have hcz21_1 : w19.cell? ⟨gb158, 1, none⟩ = some (.slice A0_1 l0_1.length c0_1) := (bC BK158.out 1).trans rfl; have hcz21_2 : w19.cell? ⟨gb158, 2, none⟩ = some (.string a0_2) := (bC BK158.out 2).trans rfl; have hfz21_0 := bF BK158.out 0; have hfz21_1 := bF BK158.out 1; have hfz21_2 := bF BK158.out 2) | ((with_reducible refine gate_callee (f := 62) rfl ?_); refine goesL_ (some 15) rfl rfl Tryd.func62 (by kernel_rfl) rfl #[.agg #[.int .u64 a0_0, .slice A0_1 l0_1.length c0_1, .string a0_2], .agg #[.int .u64 (IntKind.u64.wrap (a0_0 + 1)), .slice A1 l1.length c1]] rfl (by (try simp only [List.map_toArray, List.map_cons, List.map_nil]); first | done | rfl | (simp only [List.length_drop, List.length_take]; rfl) | (rw [wrap_sum2 (by assumption)]; rfl)) ?_; (with_reducible refine (journal_Log_with.calls k a0_0 (fun k_ => (((P0_1_ k_ ∨ w.heap.size ≤ k_) ∧ k_ ≠ gb158) ∧ k_ ≠ gb159)) _ _ l0_1 a0_2 (IntKind.u64.wrap (a0_0 + 1)) _ _ l1 t160 t161 t164 t165 _ ?side1 ?side2 ?side3 A3.out (HT.below bA)).mono ?_); (case side1 => exact HO0_1.out); (case side2 => repeat (first | exact (Kd.C_below HR1.out HB.out) | (with_reducible refine Kd.C_alloc ?_ _) | (with_reducible refine Kd.C_drewN ?_ _) | (with_reducible refine Kd.C_drew ?_))); (case side3 => exact HC1.out); rintro e w22 ⟨v162, rfl, ho0, hb⟩; refine ⟨_, rfl, ?_⟩; have n0_ := Ax.mk (Kd.V_elder' (by exact Kd.V_to HO0_1.out) (Kd.N_base ho0) hb); have n1_ := Ax.mk (Kd.N_lower (Kd.N_mono (ok' := fun k_ => (P0_1_ k_ ∨ w.heap.size ≤ k_) ∧ k_ ≠ gb158 ∧ k_ ≠ gb159) ho0 (fun k_ hk_ => ⟨Or.elim hk_ (fun hs_ => hs_.1.1) (fun hn_ => (.inr (Nat.le_trans (bS bA) hn_))), Or.elim hk_ (fun hs_ => hs_.1.2) (fun hn_ => (Kd.freshB (g := gb158) (o := .cells #[.int .u64 a0_0, .slice A0_1 l0_1.length c0_1, .string a0_2] 66 (0, 0)) (bT BK158.out) k_ hn_)), Or.elim hk_ (fun hs_ => hs_.2) (fun hn_ => (Kd.freshB (g := gb159) (o := .cells #[.int .u64 0, .slice none 0 0, .string (⟨#[]⟩ : ByteArray)] 66 (0, 0)) (bT BK159.out) k_ hn_))⟩)) (bS bA)); have n2_ := Ax.mk (bB (bT BK158.out) hb); have n3_ := Ax.mk (bB (bT BK159.out) hb); have n4_ := Ax.mk (bP bA hb); clear HO0_1; clear BK158; clear BK159; clear HB; have HO0_1 := n0_; have HO163 := n1_; have BK158 := n2_; have BK159 := n3_; have HB := n4_; clear n0_ n1_ n2_ n3_ n4_; (try clear hb); (try clear hb2); (try clear hk); (try clear hi); (try clear ho0)) | ((with_reducible refine gate_dst (N := 6) rfl ?_); refine box_event ?hg (N := 6) ?hd (cs := #[.int .u64 0, .slice none 0 0, .string (⟨#[]⟩ : ByteArray)]) (t := 66) ?hr ?_; (case hd => rfl); (case hg => rfl); (case hr => first | (go_simp; done) | (go_simp; rfl)); intro gb166 hg w23 hbox hb; have n0_ := Ax.mk (Kd.V_below (Kd.V_elderB (by exact Kd.V_to HO0_1.out) gb166 (Nat.le_of_eq hg.symm)) hb); have n1_ := Ax.mk (Kd.N_below (Kd.N_elderB (by exact Kd.N_to HO163.out) gb166 (Nat.le_of_eq hg.symm)) hb); have n2_ := Ax.mk (bB (bT BK158.out) hb); have n3_ := Ax.mk (bB (bT BK159.out) hb); have n4_ := Ax.mk (bP bA hb); have n5_ := Ax.mk (hbox); have n6_ := Ax.mk ((ge_new hg : w.heap.size ≤ gb166)); have n7_ := n6_; have n8_ := Ax.mk ((ne_lt hg BK158.out : gb158 ≠ gb166)); have n9_ := Ax.mk ((ne_gt hg BK158.out : gb166 ≠ gb158)); have n10_ := Ax.mk ((ne_lt hg BK159.out : gb159 ≠ gb166)); have n11_ := Ax.mk ((ne_gt hg BK159.out : gb166 ≠ gb159)); clear HO0_1; clear HO163; clear BK158; clear BK159; clear HB; have HO0_1 := n0_; have HO163 := n1_; have BK158 := n2_; have BK159 := n3_; have HB := n4_; have BK166 := n5_; have GW166 := n6_; have GE166 := n7_; have NB158_166 := n8_; have NB166_158 := n9_; have NB159_166 := n10_; have NB166_159 := n11_; clear n0_ n1_ n2_ n3_ n4_ n5_ n6_ n7_ n8_ n9_ n10_ n11_; clear hb hbox hg; have hnb24 := NB166_158.out; have hnc24 := NB158_166.out; have hnb25 := NB166_159.out; have hnc25 := NB159_166.out; have hcz26_0 : w23.cell? ⟨gb166, 0, none⟩ = some (.int .u64 0) := (bC BK166.out 0).trans rfl; have hcz26_1 : w23.cell? ⟨gb166, 1, none⟩ = some (.slice none 0 0) := (bC BK166.out 1).trans rfl; have hcz26_2 : w23.cell? ⟨gb166, 2, none⟩ = some (.string (⟨#[]⟩ : ByteArray)) := (bC BK166.out 2).trans rfl; have hfz26_0 := bF BK166.out 0; have hfz26_1 := bF BK166.out 1; have hfz26_2 := bF BK166.out 2; obtain ⟨Ao27, co27, eo27⟩ := Kd.N_slice HO163.out; subst eo27; have hcz28_0 : w23.cell? ⟨gb158, 0, none⟩ = some (.int .u64 a0_0) := (bC BK158.out 0).trans rfl; have hcz28_1 : w23.cell? ⟨gb158, 1, none⟩ = some (.slice A0_1 l0_1.length c0_1) := (bC BK158.out 1).trans rfl; have hcz28_2 : w23.cell? ⟨gb158, 2, none⟩ = some (.string a0_2) := (bC BK158.out 2).trans rfl; have hfz28_0 := bF BK158.out 0; have hfz28_1 := bF BK158.out 1; have hfz28_2 := bF BK158.out 2; have hcz29_0 : w23.cell? ⟨gb159, 0, none⟩ = some (.int .u64 0) := (bC BK159.out 0).trans rfl; have hcz29_1 : w23.cell? ⟨gb159, 1, none⟩ = some (.slice none 0 0) := (bC BK159.out 1).trans rfl; have hcz29_2 : w23.cell? ⟨gb159, 2, none⟩ = some (.string (⟨#[]⟩ : ByteArray)) := (bC BK159.out 2).trans rfl; have hfz29_0 := bF BK159.out 0; have hfz29_1 := bF BK159.out 1; have hfz29_2 := bF BK159.out 2))
   refine bodyPost_ret (results_ct rfl _ _ gb159 66 #[.int .u64 t160, .slice Ao27 t161.length co27, .string t164] (0, 0) _ rfl (by refine bT ?_; refine bU (cs := #[.int .u64 t160, .slice Ao27 t161.length co27, .string (⟨#[]⟩ : ByteArray)]) ?_ 2 _ rfl; refine bT ?_; refine bU (cs := #[.int .u64 t160, .slice none 0 0, .string (⟨#[]⟩ : ByteArray)]) ?_ 1 _ rfl; refine bT ?_; refine bU (cs := #[.int .u64 0, .slice none 0 0, .string (⟨#[]⟩ : ByteArray)]) ?_ 0 _ rfl; refine bT ?_; refine bR ?_ NB159_166.out _; refine bT ?_; refine bR ?_ NB159_166.out _; refine bT ?_; refine bR ?_ NB159_166.out _; exact bT BK159.out) Tryd.underlying66 rfl (by kernel_rfl)) rfl ?_
   exact ⟨_, by first | rfl | (simp [errW_none, errW_some] <;> rfl) | (simp [*, errW_none, errW_some] <;> rfl), by apply Kd.N_to; exact Kd.N_mono (Kd.N_far (p := ⟨gb159, 2, none⟩) (Kd.N_far (p := ⟨gb159, 1, none⟩) (Kd.N_far (p := ⟨gb159, 0, none⟩) (Kd.N_far (p := ⟨gb166, 2, none⟩) (Kd.N_far (p := ⟨gb166, 1, none⟩) (Kd.N_far (p := ⟨gb166, 0, none⟩) (Kd.N_mono (Kd.N_mono HO163.out (fun k_ hk => (⟨hk, hk.2⟩ : _ ∧ k_ ≠ gb166))) (fun k_ hk => (⟨hk, hk.1.1.2.2⟩ : _ ∧ k_ ≠ gb159))) (fun _ hk => hk.1.2) (.int .u64 t160)) (fun _ hk => hk.1.2) (.slice Ao27 t161.length co27)) (fun _ hk => hk.1.2) (.string t164)) (fun _ hk => hk.2) (.int .u64 t160)) (fun _ hk => hk.2) (.slice Ao27 t161.length co27)) (fun _ hk => hk.2) (.string t164)) (fun _ hk => hk.1.1.1.1), bA⟩
 ·rw [if_neg c4] at H
  have c4b0 : (t165 == 0) = false := beq_eq_false_iff_ne.mpr c4
  have c4b1 : (t165 != 0) = true := bne_iff_ne.mpr c4
  simp only [Option.some.injEq, Prod.mk.injEq] at H
  obtain ⟨rfl, rfl, rfl, rfl⟩ := H
  go_enter Tryd.func39, Tryd.ntmps39
  go_wp2_with (first | ((with_reducible refine gate_dst (N := 2) rfl ?_); refine box_event ?hg (N := 2) ?hd (cs := #[.int .u64 a0_0, .slice A0_1 l0_1.length c0_1, .string a0_2]) (t := 66) ?hr ?_; (case hd => rfl); (case hg => rfl); (case hr => first | (go_simp; done) | (go_simp; rfl)); intro gb158 hg w30 hbox hb; have n0_ := Ax.mk (Kd.V_below (Kd.V_elderB (by exact Kd.V_to HO0_1.out) gb158 (Nat.le_of_eq hg.symm)) hb); have n1_ := Ax.mk (bP bA hb); have n2_ := Ax.mk (hbox); have n3_ := Ax.mk ((ge_new hg : w.heap.size ≤ gb158)); have n4_ := n3_; clear HO0_1; clear HB; have HO0_1 := n0_; have HB := n1_; have BK158 := n2_; have GW158 := n3_; have GE158 := n4_; clear n0_ n1_ n2_ n3_ n4_; clear hb hbox hg) | ((with_reducible refine gate_dst (N := 4) rfl ?_); refine box_event ?hg (N := 4) ?hd (cs := #[.int .u64 0, .slice none 0 0, .string (⟨#[]⟩ : ByteArray)]) (t := 66) ?hr ?_; (case hd => rfl); (case hg => rfl); (case hr => first | (go_simp; done) | (go_simp; rfl)); intro gb159 hg w31 hbox hb; have n0_ := Ax.mk (Kd.V_below (Kd.V_elderB (by exact Kd.V_to HO0_1.out) gb159 (Nat.le_of_eq hg.symm)) hb); have n1_ := Ax.mk (bB (bT BK158.out) hb); have n2_ := Ax.mk (bP bA hb); have n3_ := Ax.mk (hbox); have n4_ := Ax.mk ((ge_new hg : w.heap.size ≤ gb159)); have n5_ := n4_; have n6_ := Ax.mk ((ne_lt hg BK158.out : gb158 ≠ gb159)); have n7_ := Ax.mk ((ne_gt hg BK158.out : gb159 ≠ gb158)); clear HO0_1; clear BK158; clear HB; have HO0_1 := n0_; have BK158 := n1_; have HB := n2_; have BK159 := n3_; have GW159 := n4_; have GE159 := n5_; have NB158_159 := n6_; have NB159_158 := n7_; clear n0_ n1_ n2_ n3_ n4_ n5_ n6_ n7_; clear hb hbox hg; have hnb32 := NB158_159.out; have hnc32 := NB159_158.out; have hcz33_0 : w31.cell? ⟨gb158, 0, none⟩ = some (.int .u64 a0_0) := (bC BK158.out 0).trans rfl; have hcz33_1 : w31.cell? ⟨gb158, 1, none⟩ = some (.slice A0_1 l0_1.length c0_1) := (bC BK158.out 1).trans rfl; have hcz33_2 : w31.cell? ⟨gb158, 2, none⟩ = some (.string a0_2) := (bC BK158.out 2).trans rfl; have hfz33_0 := bF BK158.out 0; have hfz33_1 := bF BK158.out 1; have hfz33_2 := bF BK158.out 2) | ((with_reducible refine gate_callee (f := 62) rfl ?_); refine goesL_ (some 15) rfl rfl Tryd.func62 (by kernel_rfl) rfl #[.agg #[.int .u64 a0_0, .slice A0_1 l0_1.length c0_1, .string a0_2], .agg #[.int .u64 (IntKind.u64.wrap (a0_0 + 1)), .slice A1 l1.length c1]] rfl (by (try simp only [List.map_toArray, List.map_cons, List.map_nil]); first | done | rfl | (simp only [List.length_drop, List.length_take]; rfl) | (rw [wrap_sum2 (by assumption)]; rfl)) ?_; (with_reducible refine (journal_Log_with.calls k a0_0 (fun k_ => (((P0_1_ k_ ∨ w.heap.size ≤ k_) ∧ k_ ≠ gb158) ∧ k_ ≠ gb159)) _ _ l0_1 a0_2 (IntKind.u64.wrap (a0_0 + 1)) _ _ l1 t160 t161 t164 t165 _ ?side1 ?side2 ?side3 A3.out (HT.below bA)).mono ?_); (case side1 => exact HO0_1.out); (case side2 => repeat (first | exact (Kd.C_below HR1.out HB.out) | (with_reducible refine Kd.C_alloc ?_ _) | (with_reducible refine Kd.C_drewN ?_ _) | (with_reducible refine Kd.C_drew ?_))); (case side3 => exact HC1.out); rintro e w34 ⟨v162, rfl, ho0, hb⟩; refine ⟨_, rfl, ?_⟩; have n0_ := Ax.mk (Kd.V_elder' (by exact Kd.V_to HO0_1.out) (Kd.N_base ho0) hb); have n1_ := Ax.mk (Kd.N_lower (Kd.N_mono (ok' := fun k_ => (P0_1_ k_ ∨ w.heap.size ≤ k_) ∧ k_ ≠ gb158 ∧ k_ ≠ gb159) ho0 (fun k_ hk_ => ⟨Or.elim hk_ (fun hs_ => hs_.1.1) (fun hn_ => (.inr (Nat.le_trans (bS bA) hn_))), Or.elim hk_ (fun hs_ => hs_.1.2) (fun hn_ => (Kd.freshB (g := gb158) (o := .cells #[.int .u64 a0_0, .slice A0_1 l0_1.length c0_1, .string a0_2] 66 (0, 0)) (bT BK158.out) k_ hn_)), Or.elim hk_ (fun hs_ => hs_.2) (fun hn_ => (Kd.freshB (g := gb159) (o := .cells #[.int .u64 0, .slice none 0 0, .string (⟨#[]⟩ : ByteArray)] 66 (0, 0)) (bT BK159.out) k_ hn_))⟩)) (bS bA)); have n2_ := Ax.mk (bB (bT BK158.out) hb); have n3_ := Ax.mk (bB (bT BK159.out) hb); have n4_ := Ax.mk (bP bA hb); clear HO0_1; clear BK158; clear BK159; clear HB; have HO0_1 := n0_; have HO163 := n1_; have BK158 := n2_; have BK159 := n3_; have HB := n4_; clear n0_ n1_ n2_ n3_ n4_; (try clear hb); (try clear hb2); (try clear hk); (try clear hi); (try clear ho0)) | ((with_reducible refine gate_dst (N := 6) rfl ?_); refine box_event ?hg (N := 6) ?hd (cs := #[.int .u64 0, .slice none 0 0, .string (⟨#[]⟩ : ByteArray)]) (t := 66) ?hr ?_; (case hd => rfl); (case hg => rfl); (case hr => first | (go_simp; done) | (go_simp; rfl)); intro gb166 hg w35 hbox hb; have n0_ := Ax.mk (Kd.V_below (Kd.V_elderB (by exact Kd.V_to HO0_1.out) gb166 (Nat.le_of_eq hg.symm)) hb); have n1_ := Ax.mk (Kd.N_below (Kd.N_elderB (by exact Kd.N_to HO163.out) gb166 (Nat.le_of_eq hg.symm)) hb); have n2_ := Ax.mk (bB (bT BK158.out) hb); have n3_ := Ax.mk (bB (bT BK159.out) hb); have n4_ := Ax.mk (bP bA hb); have n5_ := Ax.mk (hbox); have n6_ := Ax.mk ((ge_new hg : w.heap.size ≤ gb166)); have n7_ := n6_; have n8_ := Ax.mk ((ne_lt hg BK158.out : gb158 ≠ gb166)); have n9_ := Ax.mk ((ne_gt hg BK158.out : gb166 ≠ gb158)); have n10_ := Ax.mk ((ne_lt hg BK159.out : gb159 ≠ gb166)); have n11_ := Ax.mk ((ne_gt hg BK159.out : gb166 ≠ gb159)); clear HO0_1; clear HO163; clear BK158; clear BK159; clear HB; have HO0_1 := n0_; have HO163 := n1_; have BK158 := n2_; have BK159 := n3_; have HB := n4_; have BK166 := n5_; have GW166 := n6_; have GE166 := n7_; have NB158_166 := n8_; have NB166_158 := n9_; have NB159_166 := n10_; have NB166_159 := n11_; clear n0_ n1_ n2_ n3_ n4_ n5_ n6_ n7_ n8_ n9_ n10_ n11_; clear hb hbox hg; have hnb36 := NB166_158.out; have hnc36 := NB158_166.out; have hnb37 := NB166_159.out; have hnc37 := NB159_166.out; have hcz38_0 : w35.cell? ⟨gb166, 0, none⟩ = some (.int .u64 0) := (bC BK166.out 0).trans rfl; have hcz38_1 : w35.cell? ⟨gb166, 1, none⟩ = some (.slice none 0 0) := (bC BK166.out 1).trans rfl; have hcz38_2 : w35.cell? ⟨gb166, 2, none⟩ = some (.string (⟨#[]⟩ : ByteArray)) := (bC BK166.out 2).trans rfl; have hfz38_0 := bF BK166.out 0; have hfz38_1 := bF BK166.out 1; have hfz38_2 := bF BK166.out 2; obtain ⟨Ao39, co39, eo39⟩ := Kd.N_slice HO163.out; subst eo39; have hcz40_0 : w35.cell? ⟨gb159, 0, none⟩ = some (.int .u64 0) := (bC BK159.out 0).trans rfl; have hcz40_1 : w35.cell? ⟨gb159, 1, none⟩ = some (.slice none 0 0) := (bC BK159.out 1).trans rfl; have hcz40_2 : w35.cell? ⟨gb159, 2, none⟩ = some (.string (⟨#[]⟩ : ByteArray)) := (bC BK159.out 2).trans rfl; have hfz40_0 := bF BK159.out 0; have hfz40_1 := bF BK159.out 1; have hfz40_2 := bF BK159.out 2))
  refine bodyPost_ret (results_ct rfl _ _ gb159 66 #[.int .u64 0, .slice none 0 0, .string (⟨#[]⟩ : ByteArray)] (0, 0) _ rfl (by refine bT ?_; refine bU (cs := #[.int .u64 0, .slice none 0 0, .string (⟨#[]⟩ : ByteArray)]) ?_ 2 _ rfl; refine bT ?_; refine bU (cs := #[.int .u64 0, .slice none 0 0, .string (⟨#[]⟩ : ByteArray)]) ?_ 1 _ rfl; refine bT ?_; refine bU (cs := #[.int .u64 0, .slice none 0 0, .string (⟨#[]⟩ : ByteArray)]) ?_ 0 _ rfl; refine bT ?_; refine bR ?_ NB159_166.out _; refine bT ?_; refine bR ?_ NB159_166.out _; refine bT ?_; refine bR ?_ NB159_166.out _; exact bT BK159.out) Tryd.underlying66 rfl (by kernel_rfl)) rfl ?_
  exact ⟨_, by first | rfl | (simp [errW_none, errW_some] <;> rfl) | (simp [*, errW_none, errW_some] <;> rfl), by first | exact Kd.S_nil _ _ _ _ _ | exact Kd.N_nil _ _ _ _ _ | exact Kd.V_nil _ _ _ _ _ | exact Kd.Q_nil _ _ _ _ _ | exact Kd.R_nil _ _ _ _ _, bA⟩
def journal_New.f (k : Nat) (a0 : Int) (l1 : List (S24)) : Option (Int × (List (S44)) × ByteArray × Int) := (journal_Log_with.f k 0 ([] : List (S44)) (⟨#[]⟩ : ByteArray) a0 l1).bind fun bt152 => (some (bt152.1, bt152.2.1, bt152.2.2.1, bt152.2.2.2))
theorem journal_New.mono : ∀ a0 a1 k, LeO (journal_New.f k a0 a1) (journal_New.f (k + 1) a0 a1) := by
 intro a0 a1 k
 unfold journal_New.f
 repeat' first
   | (with_reducible exact journal_Log_with.mono _ _ _ _ _ _)
   | (with_reducible exact LeO.refl _)
   | (with_reducible exact LeO.none _)
   | (with_reducible refine LeO.ite ?_ ?_)
   | (with_reducible refine LeO.bind ?_ (fun _ => ?_))
   | exact journal_Log_with.mono _ _ _ _ _ _
   | exact LeO.none _
   | refine LeO.ite ?_ ?_
   | refine LeO.bind ?_ (fun _ => ?_)
set_option maxHeartbeats 8000000 in
set_option maxRecDepth 100000 in
theorem journal_New.calls (k : Nat) (a0 : Int) (A1 : Option Addr) (c1 : Nat) (l1 : List (S24)) (r1 : Int) (r2 : List (S44)) (r3 : ByteArray) (r4 : Int) (w : World) (hr1 : Kd.C k24 w A1 l1.length l1) (hc1 : l1.length ≤ c1) (h : journal_New.f k a0 l1 = some (r1, r2, r3, r4)) (HT : Tabs w) :
  Calls Tryd.prog 38 #[.int .u64 a0, .slice A1 l1.length c1] w fun e w' => ∃ v1_ : Value, e = .returned (.tuple #[.agg #[.int .u64 r1, v1_, .string r3], .int .i64 r4]) ∧ Kd.N k44 44 w' w.heap.size (fun k_ => (w.heap.size ≤ k_)) v1_ r2 ∧ Below w.heap.size w w' := by
 have hu66 := Tryd.underlying66
 have hu44 := Tryd.underlying44
 have HR1 := Ax.mk hr1
 have HC1 := Ax.mk hc1
 clear hr1 hc1
 have HB := Ax.mk (Below.refl w.heap.size w)
 have H : ((journal_Log_with.f k 0 ([] : List (S44)) (⟨#[]⟩ : ByteArray) a0 l1).bind fun bt152 => (some (bt152.1, bt152.2.1, bt152.2.2.1, bt152.2.2.2))) = some (r1, r2, r3, r4) := h
 clear h
 replace H := Option.bind_eq_some_iff.mp H
 obtain ⟨⟨t152, t153, t156, t157⟩, A30, H⟩ := H
 replace H : (some (t152, t153, t156, t157)) = some (r1, r2, r3, r4) := H
 have A3 := Ax.mk A30
 clear A30
 simp only [Option.some.injEq, Prod.mk.injEq] at H
 obtain ⟨rfl, rfl, rfl, rfl⟩ := H
 go_enter Tryd.func38, Tryd.ntmps38
 go_wp2_with (first | ((with_reducible refine gate_dst (N := 4) rfl ?_); refine box_event ?hg (N := 4) ?hd (cs := #[.int .u64 0, .slice none 0 0, .string (⟨#[]⟩ : ByteArray)]) (t := 66) ?hr ?_; (case hd => rfl); (case hg => rfl); (case hr => first | (go_simp; done) | (go_simp; rfl)); intro gb151 hg w4 hbox hb; have n0_ := Ax.mk (bP bA hb); have n1_ := Ax.mk (hbox); have n2_ := Ax.mk ((ge_new hg : w.heap.size ≤ gb151)); have n3_ := n2_; clear HB; have HB := n0_; have BK151 := n1_; have GW151 := n2_; have GE151 := n3_; clear n0_ n1_ n2_ n3_; clear hb hbox hg) | ((with_reducible refine gate_callee (f := 62) rfl ?_); refine goesL_ (some 10) rfl rfl Tryd.func62 (by kernel_rfl) rfl #[.agg #[.int .u64 0, .slice none 0 0, .string (⟨#[]⟩ : ByteArray)], .agg #[.int .u64 a0, .slice A1 l1.length c1]] rfl (by (try simp only [List.map_toArray, List.map_cons, List.map_nil]); first | done | rfl | (simp only [List.length_drop, List.length_take]; rfl) | (rw [wrap_sum2 (by assumption)]; rfl)) ?_; (refine (journal_Log_with.calls k 0 (fun k_ => False) _ _ ([] : List (S44)) (⟨#[]⟩ : ByteArray) a0 _ _ l1 t152 t153 t156 t157 _ ?side1 ?side2 ?side3 A3.out (HT.below bA)).mono ?_); (case side1 => exact Kd.V_nil _ _ _ _ _); (case side2 => repeat (first | exact (Kd.C_below HR1.out HB.out) | (with_reducible refine Kd.C_alloc ?_ _) | (with_reducible refine Kd.C_drewN ?_ _) | (with_reducible refine Kd.C_drew ?_))); (case side3 => exact HC1.out); rintro e w5 ⟨v154, rfl, ho0, hb⟩; refine ⟨_, rfl, ?_⟩; have n0_ := Ax.mk (Kd.N_lower (Kd.N_mono (ok' := fun k_ => (w.heap.size ≤ k_) ∧ k_ ≠ gb151) ho0 (fun k_ hk_ => ⟨Or.elim hk_ (fun hs_ => (hs_).elim) (fun hn_ => (Nat.le_trans (bS bA) hn_)), Or.elim hk_ (fun hs_ => (hs_).elim) (fun hn_ => (Kd.freshB (g := gb151) (o := .cells #[.int .u64 0, .slice none 0 0, .string (⟨#[]⟩ : ByteArray)] 66 (0, 0)) (bT BK151.out) k_ hn_))⟩)) (bS bA)); have n1_ := Ax.mk (bB (bT BK151.out) hb); have n2_ := Ax.mk (bP bA hb); clear BK151; clear HB; have HO155 := n0_; have BK151 := n1_; have HB := n2_; clear n0_ n1_ n2_; (try clear hb); (try clear hb2); (try clear hk); (try clear hi); (try clear ho0); have hcz6_0 : w5.cell? ⟨gb151, 0, none⟩ = some (.int .u64 0) := (bC BK151.out 0).trans rfl; have hcz6_1 : w5.cell? ⟨gb151, 1, none⟩ = some (.slice none 0 0) := (bC BK151.out 1).trans rfl; have hcz6_2 : w5.cell? ⟨gb151, 2, none⟩ = some (.string (⟨#[]⟩ : ByteArray)) := (bC BK151.out 2).trans rfl; have hfz6_0 := bF BK151.out 0; have hfz6_1 := bF BK151.out 1; have hfz6_2 := bF BK151.out 2; obtain ⟨Ao7, co7, eo7⟩ := Kd.N_slice HO155.out; subst eo7))
 refine bodyPost_ret (results_ct rfl _ _ gb151 66 #[.int .u64 t152, .slice Ao7 t153.length co7, .string t156] (0, 0) _ rfl (by refine bT ?_; refine bU (cs := #[.int .u64 t152, .slice Ao7 t153.length co7, .string (⟨#[]⟩ : ByteArray)]) ?_ 2 _ rfl; refine bT ?_; refine bU (cs := #[.int .u64 t152, .slice none 0 0, .string (⟨#[]⟩ : ByteArray)]) ?_ 1 _ rfl; refine bT ?_; refine bU (cs := #[.int .u64 0, .slice none 0 0, .string (⟨#[]⟩ : ByteArray)]) ?_ 0 _ rfl; exact bT BK151.out) Tryd.underlying66 rfl (by kernel_rfl)) rfl ?_
 exact ⟨_, by first | rfl | (simp [errW_none, errW_some] <;> rfl) | (simp [*, errW_none, errW_some] <;> rfl), by apply Kd.N_to; exact Kd.N_mono (Kd.N_far (p := ⟨gb151, 2, none⟩) (Kd.N_far (p := ⟨gb151, 1, none⟩) (Kd.N_far (p := ⟨gb151, 0, none⟩) (Kd.N_mono HO155.out (fun k_ hk => (⟨hk, hk.2⟩ : _ ∧ k_ ≠ gb151))) (fun _ hk => hk.2) (.int .u64 t152)) (fun _ hk => hk.2) (.slice Ao7 t153.length co7)) (fun _ hk => hk.2) (.string t156)) (fun _ hk => hk.1.1), bA⟩
def r13_bytes.l0 : Nat → ByteArray → Int → Int → List (S26) → Option (ByteArray × Int)
 | 0, _, _, _, _ => none
 | k + 1, x4, x5, x290000, x290001 => if x5 < (x290001.length : Int) then (if 0 ≤ x5 then ((r12_Put.f k ((rd_T26 x290001 x5).f0) ((rd_T26 x290001 x5).f1) ((rd_T26 x290001 x5).f2) ((rd_T26 x290001 x5).f3) ((rd_T26 x290001 x5).f4)).bind fun bt291 => (if bt291.2 = 0 then (if ((rd_T26 x290001 x5).f0) = 8 then (some ((⟨#[]⟩ : ByteArray), 1)) else (if x4.size + bt291.1.size ≤ 9223372036854775807 then (r13_bytes.l0 k (x4 ++ bt291.1) (wrap64 (x5 + 1)) x290000 x290001) else (none))) else (some ((⟨#[]⟩ : ByteArray), 1)))) else (none)) else ((r12_Put.f k 8 0 0 x290000 (⟨#[]⟩ : ByteArray)).bind fun bt294 => (if x4.size + bt294.1.size ≤ 9223372036854775807 then (some (x4 ++ bt294.1, 0)) else (none)))
def r13_bytes.f (k : Nat) (a0_0 : Int) (l0_1 : List (S26)) : Option (ByteArray × Int) := r13_bytes.l0 k (⟨#[]⟩ : ByteArray) 0 a0_0 l0_1
theorem r13_bytes.mono_l : ∀ k, (∀ y0 y1 y2 y3, LeO (r13_bytes.l0 k y0 y1 y2 y3) (r13_bytes.l0 (k + 1) y0 y1 y2 y3))
 | 0 => fun _ _ _ _ r h => by simp [r13_bytes.l0] at h
 | k + 1 => by
  have ih0 := r13_bytes.mono_l k
  ·intro y0 y1 y2 y3
   unfold r13_bytes.l0
   repeat' first
   | (with_reducible exact ih0 _ _ _ _)
   | (with_reducible exact r12_Put.mono _ _ _ _ _ _)
   | (with_reducible exact LeO.refl _)
   | (with_reducible exact LeO.none _)
   | (with_reducible refine LeO.ite ?_ ?_)
   | (with_reducible refine LeO.bind ?_ (fun _ => ?_))
   | exact ih0 _ _ _ _
   | exact r12_Put.mono _ _ _ _ _ _
   | exact LeO.none _
   | refine LeO.ite ?_ ?_
   | refine LeO.bind ?_ (fun _ => ?_)
theorem r13_bytes.mono : ∀ a0 a1 k, LeO (r13_bytes.f k a0 a1) (r13_bytes.f (k + 1) a0 a1) := by
 intro a0 a1 k
 have ih0 := r13_bytes.mono_l k
 unfold r13_bytes.f
 repeat' first
   | (with_reducible exact ih0 _ _ _ _)
   | (with_reducible exact r12_Put.mono _ _ _ _ _ _)
   | (with_reducible exact LeO.refl _)
   | (with_reducible exact LeO.none _)
   | (with_reducible refine LeO.ite ?_ ?_)
   | (with_reducible refine LeO.bind ?_ (fun _ => ?_))
   | exact ih0 _ _ _ _
   | exact r12_Put.mono _ _ _ _ _ _
   | exact LeO.none _
   | refine LeO.ite ?_ ?_
   | refine LeO.bind ?_ (fun _ => ?_)
def r13_Add.f (k : Nat) (a0_0 : Int) (l0_1 : List (S46)) (a0_2 : ByteArray) (l1 : List (S26)) : Option (Int × (List (S46)) × ByteArray × Int) := (r13_bytes.f k (IntKind.u64.wrap (a0_0 + 1)) l1).bind fun bt411 => (if bt411.2 = 0 then (if a0_0 = 18446744073709551615 then (some (0, ([] : List (S46)), (⟨#[]⟩ : ByteArray), 14)) else ((some (([] : List (S46)) : List (S46))).bind fun y413 => (if y413.length + l0_1.length < 4398046511104 then ((some (y413 ++ l0_1 : List (S46))).bind fun y416 => ((some (([(⟨IntKind.u64.wrap (a0_0 + 1), l1⟩ : S46)] : List (S46)) : List (S46))).bind fun y419 => (if y416.length + y419.length < 4398046511104 then (if a0_2.size + bt411.1.size ≤ 9223372036854775807 then (some (IntKind.u64.wrap (a0_0 + 1), (y416 ++ y419), a0_2 ++ bt411.1, 0)) else (none)) else (none)))) else (none)))) else (some (0, ([] : List (S46)), (⟨#[]⟩ : ByteArray), bt411.2)))
theorem r13_Add.mono : ∀ a0 a1 a2 a3 k, LeO (r13_Add.f k a0 a1 a2 a3) (r13_Add.f (k + 1) a0 a1 a2 a3) := by
 intro a0 a1 a2 a3 k
 unfold r13_Add.f
 repeat' first
   | (with_reducible exact r13_bytes.mono _ _ _)
   | (with_reducible exact LeO.refl _)
   | (with_reducible exact LeO.none _)
   | (with_reducible refine LeO.ite ?_ ?_)
   | (with_reducible refine LeO.bind ?_ (fun _ => ?_))
   | exact r13_bytes.mono _ _ _
   | exact LeO.none _
   | refine LeO.ite ?_ ?_
   | refine LeO.bind ?_ (fun _ => ?_)
def r13_Add.T7 : Bool × List (List Nat × List Nat) := (true, [([], []), ([0], [0]), ([1], [1]), ([], []), ([], []), ([4], [4]), ([3, 5], [3, 5]), ([], []), ([7], [7]), ([6, 8, 6], [6, 8]), ([], []), ([10], [10]), ([], []), ([11, 12], [11, 12]), ([2, 9, 13], [2, 9, 13]), ([14, 9, 0, 1, 2, 3, 4, 5, 6, 7, 8, 9, 10, 11, 12, 13, 14], [14]), ([15, 0, 1, 2, 3, 4, 5, 6, 7, 8, 9, 10, 11, 12, 13, 14, 15], [])])
def r13_Add.B7 : List Nat := [0, 1, 3, 0, 0, 16, 56, 0, 128, 504, 0, 1024, 0, 7168, 16383, 32767, 65535]
def r13_New.f (k : Nat) (a0 : Int) (l1 : List (S26)) : Option (Int × (List (S46)) × ByteArray × Int) := (r13_bytes.f k a0 l1).bind fun bt403 => (if bt403.2 = 0 then (some (a0, (([(⟨a0, l1⟩ : S46)] : List (S46))), bt403.1, 0)) else (some (0, ([] : List (S46)), (⟨#[]⟩ : ByteArray), bt403.2)))
theorem r13_New.mono : ∀ a0 a1 k, LeO (r13_New.f k a0 a1) (r13_New.f (k + 1) a0 a1) := by
 intro a0 a1 k
 unfold r13_New.f
 repeat' first
   | (with_reducible exact r13_bytes.mono _ _ _)
   | (with_reducible exact LeO.refl _)
   | (with_reducible exact LeO.none _)
   | (with_reducible refine LeO.ite ?_ ?_)
   | (with_reducible refine LeO.bind ?_ (fun _ => ?_))
   | exact r13_bytes.mono _ _ _
   | exact LeO.none _
   | refine LeO.ite ?_ ?_
   | refine LeO.bind ?_ (fun _ => ?_)
def journal_After.l0 : Nat → Int → List (S24) → List (S44) → Int → Int → Option ((List (S24)))
 | 0, _, _, _, _, _ => none
 | k + 1, x1, x5, x9, x10, x11 => if x11 < x10 then (if 0 ≤ x11 then (if x11 < (x9.length : Int) then (if ((rd_T44 x9 x11).f0) > x1 then (if x5.length + ((rd_T44 x9 x11).f1).length < 2932031007402 then (journal_After.l0 k x1 (x5 ++ ((rd_T44 x9 x11).f1)) x9 x10 (wrap64 (x11 + 1))) else (none)) else (journal_After.l0 k x1 x5 x9 x10 (wrap64 (x11 + 1)))) else (none)) else (none)) else (some x5)
def journal_After.f (k : Nat) (a0_0 : Int) (l0_1 : List (S44)) (a0_2 : ByteArray) (a1 : Int) : Option ((List (S24))) := journal_After.l0 k a1 ([] : List (S24)) l0_1 (l0_1.length : Int) 0
theorem journal_After.mono_l : ∀ k, (∀ y0 y1 y2 y3 y4, LeO (journal_After.l0 k y0 y1 y2 y3 y4) (journal_After.l0 (k + 1) y0 y1 y2 y3 y4))
 | 0 => fun _ _ _ _ _ r h => by simp [journal_After.l0] at h
 | k + 1 => by
  have ih0 := journal_After.mono_l k
  ·intro y0 y1 y2 y3 y4
   unfold journal_After.l0
   repeat' first
   | (with_reducible exact ih0 _ _ _ _ _)
   | (with_reducible exact LeO.refl _)
   | (with_reducible exact LeO.none _)
   | (with_reducible refine LeO.ite ?_ ?_)
   | (with_reducible refine LeO.bind ?_ (fun _ => ?_))
   | exact ih0 _ _ _ _ _
   | exact LeO.none _
   | refine LeO.ite ?_ ?_
   | refine LeO.bind ?_ (fun _ => ?_)
theorem journal_After.mono : ∀ a0 a1 a2 a3 k, LeO (journal_After.f k a0 a1 a2 a3) (journal_After.f (k + 1) a0 a1 a2 a3) := by
 intro a0 a1 a2 a3 k
 have ih0 := journal_After.mono_l k
 unfold journal_After.f
 repeat' first
   | (with_reducible exact ih0 _ _ _ _ _)
   | (with_reducible exact LeO.refl _)
   | (with_reducible exact LeO.none _)
   | (with_reducible refine LeO.ite ?_ ?_)
   | (with_reducible refine LeO.bind ?_ (fun _ => ?_))
   | exact ih0 _ _ _ _ _
   | exact LeO.none _
   | refine LeO.ite ?_ ?_
   | refine LeO.bind ?_ (fun _ => ?_)
set_option maxHeartbeats 8000000 in
set_option maxRecDepth 100000 in
theorem journal_After.calls (k : Nat) (a0_0 : Int) (A0_1 : Option Addr) (c0_1 : Nat) (l0_1 : List (S44)) (a0_2 : ByteArray) (a1 : Int) (r : List (S24)) (w : World) (hr0_1 : Kd.C k44 w A0_1 l0_1.length l0_1) (hc0_1 : l0_1.length ≤ c0_1) (h : journal_After.f k a0_0 l0_1 a0_2 a1 = some r) :
  Calls Tryd.prog 36 #[.agg #[.int .u64 a0_0, .slice A0_1 l0_1.length c0_1, .string a0_2], .int .u64 a1] w fun e w' => ∃ v0_ : Value, e = .returned (v0_) ∧ Kd.R k24 24 w' w.heap.size (fun _ => True) v0_ r ∧ Below w.heap.size w w' := by
 have hu66 := Tryd.underlying66
 have hu44 := Tryd.underlying44
 have HR0_1 := Ax.mk hr0_1
 have HC0_1 := Ax.mk hc0_1
 clear hr0_1 hc0_1
 have HB := Ax.mk (Below.refl w.heap.size w)
 have H : (journal_After.l0 k a1 ([] : List (S24)) l0_1 (l0_1.length : Int) 0) = some r := h
 clear h
 have H' := Ax.mk H
 clear H
 go_enter Tryd.func36, Tryd.ntmps36
 go_wp2_with (first | ((with_reducible refine gate_dst (N := 2) rfl ?_); refine box_event ?hg (N := 2) ?hd (cs := #[.int .u64 a0_0, .slice A0_1 l0_1.length c0_1, .string a0_2]) (t := 66) ?hr ?_; (case hd => rfl); (case hg => rfl); (case hr => first | (go_simp; done) | (go_simp; rfl)); intro gb101 hg w3 hbox hb; have n0_ := Ax.mk (bP bA hb); have n1_ := Ax.mk (hbox); have n2_ := Ax.mk ((ge_new hg : w.heap.size ≤ gb101)); have n3_ := n2_; clear HB; have HB := n0_; have BK101 := n1_; have GW101 := n2_; have GE101 := n3_; clear n0_ n1_ n2_ n3_; clear hb hbox hg; have hcz4_0 : w3.cell? ⟨gb101, 0, none⟩ = some (.int .u64 a0_0) := (bC BK101.out 0).trans rfl; have hcz4_1 : w3.cell? ⟨gb101, 1, none⟩ = some (.slice A0_1 l0_1.length c0_1) := (bC BK101.out 1).trans rfl; have hcz4_2 : w3.cell? ⟨gb101, 2, none⟩ = some (.string a0_2) := (bC BK101.out 2).trans rfl; have hfz4_0 := bF BK101.out 0; have hfz4_1 := bF BK101.out 1; have hfz4_2 := bF BK101.out 2))
 go_loopg [5, 11] k (fun kq v5 v11 w' => ∃ (x5_1 : List (S24)) (x11_1 : Int), v11 = .int .i64 x11_1 ∧ Ax (journal_After.l0 kq a1 x5_1 l0_1 (l0_1.length : Int) x11_1 = some r) ∧ Ax (kq ≤ k) ∧ Ax (Kd.R k24 24 w' w.heap.size (fun _ => True) v5 x5_1) ∧ Ax (w'.heap[gb101]? = some (.cells #[.int .u64 a0_0, (.slice A0_1 l0_1.length c0_1), .string a0_2] 66 (0, 0))) ∧ Ax (Below w.heap.size w w'))
 case atStart => exact ⟨(([] : List (S24))), (0), (by first | rfl | (simp; done) | (simp [*]; done)), H', ⟨Nat.le_refl _⟩, ⟨by first | exact Kd.R_nil _ _ _ _ _ | exact Kd.N_nil _ _ _ _ _ | exact Kd.V_nil _ _ _ _ _ | exact Kd.Q_nil _ _ _ _ _ | exact Kd.S_nil _ _ _ _ _⟩, ⟨by refine bT ?_; exact BK101.out⟩, ⟨bA⟩⟩
 case round =>
  clear H'
  try clear p2
  try clear c3
  try clear hcz4_0
  try clear hcz4_1
  try clear hcz4_2
  try clear hfz4_0
  try clear hfz4_1
  try clear hfz4_2
  obtain ⟨x5_1, x11_1, rfl, HA, HK1, HO_5, BK101, HB⟩ := hrel
  cases gk with
  | zero => exact absurd HA.out (by simp [journal_After.l0])
  | succ k1 =>
   have H := HA.out
   clear HA
   simp only [journal_After.l0] at H
   by_cases c5 : x11_1 < (l0_1.length : Int)
   ·rw [if_pos c5] at H
    have c5b0 : decide (x11_1 < (l0_1.length : Int)) = true := decide_eq_true c5
    clear c5
    by_cases c6 : 0 ≤ x11_1
    ·rw [if_pos c6] at H
     have c6b0 : decide (0 ≤ x11_1) = true := decide_eq_true c6
     clear c6
     by_cases c7 : x11_1 < (l0_1.length : Int)
     ·rw [if_pos c7] at H
      have c7b0 : decide (x11_1 < (l0_1.length : Int)) = true := decide_eq_true c7
      clear c7
      by_cases c8 : ((rd_T44 l0_1 x11_1).f0) > a1
      ·rw [if_pos c8] at H
       have c8b0 : decide (a1 < ((rd_T44 l0_1 x11_1).f0)) = true := decide_eq_true c8
       clear c8
       by_cases c9 : x5_1.length + ((rd_T44 l0_1 x11_1).f1).length < 2932031007402
       ·rw [if_pos c9] at H
        have LMc9 := Ax.mk c9
        clear c9
        obtain ⟨y104, hy104⟩ : ∃ y_ : List (S24), y_ = (x5_1 ++ ((rd_T44 l0_1 x11_1).f1)) := ⟨_, rfl⟩
        replace H : (journal_After.l0 k1 a1 y104 l0_1 (l0_1.length : Int) (wrap64 (x11_1 + 1))) = some r := by first | (rw [hy104]; with_reducible exact H) | (have H2_ := (Option.bind_some _ _).symm.trans H; rw [hy104]; with_reducible exact H2_) | (have H2_ := (Option.bind_some _ _).symm.trans H; with_reducible exact H2_) | with_reducible exact H | (rw [hy104]; exact H) | exact H
        have Ny104 := Ax.mk hy104
        clear hy104
        have H' := Ax.mk H
        clear H
        have p102 : 0 ≤ (x11_1 : Int) := ofD
        have q102 : x11_1 < (l0_1.length : Int) := ofD
        obtain ⟨ad102, A102_1, c102_1, e102, hx102_0, hx102_1, hl102_1, hi102_1⟩ := at_T44 HR0_1.out x11_1 p102 q102
        cases e102
        replace hx102_0 := (HB.out.cell (World.block_lt_of_cell? w _ hx102_0)).trans hx102_0
        replace hx102_1 := (HB.out.cell (World.block_lt_of_cell? w _ hx102_1)).trans hx102_1
        have HR102_1 := Ax.mk hi102_1
        have HC102_1 := Ax.mk hl102_1
        clear hi102_1 hl102_1
        replace p102 := eq_true p102
        replace q102 := eq_true q102
        go_wp2_with (first | ((with_reducible refine gate_dst (N := 7) rfl ?_); refine box_event ?hg (N := 7) ?hd (cs := #[.int .u64 0, .slice none 0 0]) (t := 44) ?hr ?_; (case hd => rfl); (case hg => rfl); (case hr => first | (go_simp; done) | (go_simp; rfl)); intro gb103 hg w10 hbox hb; have n0_ := Ax.mk (Kd.R_below (by exact Kd.R_to HO_5.out) hb); have n1_ := Ax.mk (bB (bT BK101.out) hb); have n2_ := Ax.mk (bP bA hb); have n3_ := Ax.mk (hbox); have n4_ := Ax.mk ((ge_new hg : w.heap.size ≤ gb103)); have n5_ := n4_; have n6_ := Ax.mk ((ne_lt hg BK101.out : gb101 ≠ gb103)); have n7_ := Ax.mk ((ne_gt hg BK101.out : gb103 ≠ gb101)); clear HO_5; clear BK101; clear HB; have HO_5 := n0_; have BK101 := n1_; have HB := n2_; have BK103 := n3_; have GW103 := n4_; have GE103 := n5_; have NB101_103 := n6_; have NB103_101 := n7_; clear n0_ n1_ n2_ n3_ n4_ n5_ n6_ n7_; clear hb hbox hg; have hnb11 := NB103_101.out; have hnc11 := NB101_103.out; have hcz12_0 : w10.cell? ⟨gb103, 0, none⟩ = some (.int .u64 0) := (bC BK103.out 0).trans rfl; have hcz12_1 : w10.cell? ⟨gb103, 1, none⟩ = some (.slice none 0 0) := (bC BK103.out 1).trans rfl; have hfz12_0 := bF BK103.out 0; have hfz12_1 := bF BK103.out 1) | ((with_reducible refine gate_builtin (b := .append) (xs := #[.tmp 19, .tmp 21]) rfl ?_); at_builtin; refine Kd.R_append_rows k24 (w0 := w) w.heap.size rfl (.tmp 19) (.tmp 21) 29 24 (.agg #[(.int .i64 0), (.int .i64 0), (.int .i64 0), (.int .u64 0), (.string ⟨#[]⟩)]) 48 rfl Tryd.underlying29 info24 rfl (by decide) (by omega) u5 x5_1 ((rd_T44 l0_1 x11_1).f1) _ _ _ (fun _ => True) (fun _ => False) rfl rfl ?aO ?aR (fun _ _ h => h) (fun _ h => h.elim) ?aF ?aB ?aS ?aL ?_; (case aR => exact Kd.C_below HR102_1.out bA); (case aB => exact bA); (case aF => exact (fun _ _ => trivial)); (case aO => exact (by apply Kd.R_to; exact Kd.R_mono (Kd.R_far (p := ⟨gb103, 1, none⟩) (Kd.R_far (p := ⟨gb103, 0, none⟩) (Kd.R_types HO_5.out BK103.out (by decide)) (fun _ hk => hk.2) (.int .u64 ((rd_T44 l0_1 x11_1).f0))) (fun _ hk => hk.2) (.slice A102_1 ((rd_T44 l0_1 x11_1).f1).length c102_1)) (fun _ hk => trivial))); (case aS => exact (bS bA)); (case aL => have := LMc9.out; omega); intro v105 w13 ho hb hg hat; rw [← Ny104.out] at ho; have n0_ := Ax.mk (blk_grown (g := gb101) (o := .cells #[.int .u64 a0_0, .slice (some ad102) l0_1.length c0_1, .string a0_2] 66 (0, 0)) (by refine bT ?_; refine bR ?_ NB101_103.out _; refine bT ?_; refine bR ?_ NB101_103.out _; exact bT BK101.out) hg (Kd.R_ne HO_5.out BK101.out (by decide))); have n1_ := Ax.mk (blk_grown (g := gb103) (o := .cells #[.int .u64 ((rd_T44 l0_1 x11_1).f0), .slice A102_1 ((rd_T44 l0_1 x11_1).f1).length c102_1] 44 (0, 0)) (by refine bT ?_; refine bU (cs := #[.int .u64 ((rd_T44 l0_1 x11_1).f0), .slice none 0 0]) ?_ 1 _ rfl; refine bT ?_; refine bU (cs := #[.int .u64 0, .slice none 0 0]) ?_ 0 _ rfl; exact bT BK103.out) hg (Kd.R_ne HO_5.out BK103.out (by decide))); have n2_ := Ax.mk (hb); have n3_ := Ax.mk (ho); clear BK101; clear BK103; clear HB; clear HO_5; have BK101 := n0_; have BK103 := n1_; have HB := n2_; have HO106 := n3_; clear n0_ n1_ n2_ n3_; clear ho hb hg hat))
        go_roundg k1
        case measure => have := HK1.out; omega
        case rel => exact ⟨(y104), (wrap64 (x11_1 + 1)), (by first | rfl | (simp; done) | (simp [*]; done)), H', ⟨by have := HK1.out; omega⟩, ⟨by apply Kd.R_to; exact HO106.out⟩, ⟨by refine bT ?_; exact BK101.out⟩, ⟨bA⟩⟩
       ·rw [if_neg c9] at H
        exact absurd H (by simp)
      ·rw [if_neg c8] at H
       have c8b0 : decide (a1 < ((rd_T44 l0_1 x11_1).f0)) = false := decide_eq_false c8
       clear c8
       have H' := Ax.mk H
       clear H
       have p102 : 0 ≤ (x11_1 : Int) := ofD
       have q102 : x11_1 < (l0_1.length : Int) := ofD
       obtain ⟨ad102, A102_1, c102_1, e102, hx102_0, hx102_1, hl102_1, hi102_1⟩ := at_T44 HR0_1.out x11_1 p102 q102
       cases e102
       replace hx102_0 := (HB.out.cell (World.block_lt_of_cell? w _ hx102_0)).trans hx102_0
       replace hx102_1 := (HB.out.cell (World.block_lt_of_cell? w _ hx102_1)).trans hx102_1
       have HR102_1 := Ax.mk hi102_1
       have HC102_1 := Ax.mk hl102_1
       clear hi102_1 hl102_1
       replace p102 := eq_true p102
       replace q102 := eq_true q102
       go_wp2_with (first | ((with_reducible refine gate_dst (N := 7) rfl ?_); refine box_event ?hg (N := 7) ?hd (cs := #[.int .u64 0, .slice none 0 0]) (t := 44) ?hr ?_; (case hd => rfl); (case hg => rfl); (case hr => first | (go_simp; done) | (go_simp; rfl)); intro gb103 hg w14 hbox hb; have n0_ := Ax.mk (Kd.R_below (by exact Kd.R_to HO_5.out) hb); have n1_ := Ax.mk (bB (bT BK101.out) hb); have n2_ := Ax.mk (bP bA hb); have n3_ := Ax.mk (hbox); have n4_ := Ax.mk ((ge_new hg : w.heap.size ≤ gb103)); have n5_ := n4_; have n6_ := Ax.mk ((ne_lt hg BK101.out : gb101 ≠ gb103)); have n7_ := Ax.mk ((ne_gt hg BK101.out : gb103 ≠ gb101)); clear HO_5; clear BK101; clear HB; have HO_5 := n0_; have BK101 := n1_; have HB := n2_; have BK103 := n3_; have GW103 := n4_; have GE103 := n5_; have NB101_103 := n6_; have NB103_101 := n7_; clear n0_ n1_ n2_ n3_ n4_ n5_ n6_ n7_; clear hb hbox hg; have hnb15 := NB103_101.out; have hnc15 := NB101_103.out; have hcz16_0 : w14.cell? ⟨gb103, 0, none⟩ = some (.int .u64 0) := (bC BK103.out 0).trans rfl; have hcz16_1 : w14.cell? ⟨gb103, 1, none⟩ = some (.slice none 0 0) := (bC BK103.out 1).trans rfl; have hfz16_0 := bF BK103.out 0; have hfz16_1 := bF BK103.out 1))
       go_roundg k1
       case measure => have := HK1.out; omega
       case rel => exact ⟨(x5_1), (wrap64 (x11_1 + 1)), (by first | rfl | (simp; done) | (simp [*]; done)), H', ⟨by have := HK1.out; omega⟩, ⟨by apply Kd.R_to; exact Kd.R_mono (Kd.R_far (p := ⟨gb103, 1, none⟩) (Kd.R_far (p := ⟨gb103, 0, none⟩) (Kd.R_types HO_5.out BK103.out (by decide)) (fun _ hk => hk.2) (.int .u64 ((rd_T44 l0_1 x11_1).f0))) (fun _ hk => hk.2) (.slice A102_1 ((rd_T44 l0_1 x11_1).f1).length c102_1)) (fun _ hk => trivial)⟩, ⟨by refine bT ?_; refine bR ?_ NB101_103.out _; refine bT ?_; refine bR ?_ NB101_103.out _; refine bT ?_; exact BK101.out⟩, ⟨bA⟩⟩
     ·rw [if_neg c7] at H
      exact absurd H (by simp)
    ·rw [if_neg c6] at H
     exact absurd H (by simp)
   ·rw [if_neg c5] at H
    have c5b0 : decide (x11_1 < (l0_1.length : Int)) = false := decide_eq_false c5
    clear c5
    obtain rfl := Option.some.inj H
    go_wp2
    go_ret
    exact ⟨_, by first | rfl | (simp [errW_none, errW_some] <;> rfl) | (simp [*, errW_none, errW_some] <;> rfl), by apply Kd.R_to; exact HO_5.out, bA⟩
def r13_After.l0 : Nat → Int → List (S26) → Int → Int → List (S46) → ByteArray → Option ((List (S26)))
 | 0, _, _, _, _, _, _ => none
 | k + 1, x1, x5, x6, x482000, x482001, x482002 => if x6 < (x482001.length : Int) then (if 0 ≤ x6 then (if ((rd_T46 x482001 x6).f0) > x1 then (if x5.length + ((rd_T46 x482001 x6).f1).length < 2932031007402 then (r13_After.l0 k x1 (x5 ++ ((rd_T46 x482001 x6).f1)) (wrap64 (x6 + 1)) x482000 x482001 x482002) else (none)) else (r13_After.l0 k x1 x5 (wrap64 (x6 + 1)) x482000 x482001 x482002)) else (none)) else (some x5)
def r13_After.f (k : Nat) (a0_0 : Int) (l0_1 : List (S46)) (a0_2 : ByteArray) (a1 : Int) : Option ((List (S26))) := r13_After.l0 k a1 ([] : List (S26)) 0 a0_0 l0_1 a0_2
theorem r13_After.mono_l : ∀ k, (∀ y0 y1 y2 y3 y4 y5, LeO (r13_After.l0 k y0 y1 y2 y3 y4 y5) (r13_After.l0 (k + 1) y0 y1 y2 y3 y4 y5))
 | 0 => fun _ _ _ _ _ _ r h => by simp [r13_After.l0] at h
 | k + 1 => by
  have ih0 := r13_After.mono_l k
  ·intro y0 y1 y2 y3 y4 y5
   unfold r13_After.l0
   repeat' first
   | (with_reducible exact ih0 _ _ _ _ _ _)
   | (with_reducible exact LeO.refl _)
   | (with_reducible exact LeO.none _)
   | (with_reducible refine LeO.ite ?_ ?_)
   | (with_reducible refine LeO.bind ?_ (fun _ => ?_))
   | exact ih0 _ _ _ _ _ _
   | exact LeO.none _
   | refine LeO.ite ?_ ?_
   | refine LeO.bind ?_ (fun _ => ?_)
theorem r13_After.mono : ∀ a0 a1 a2 a3 k, LeO (r13_After.f k a0 a1 a2 a3) (r13_After.f (k + 1) a0 a1 a2 a3) := by
 intro a0 a1 a2 a3 k
 have ih0 := r13_After.mono_l k
 unfold r13_After.f
 repeat' first
   | (with_reducible exact ih0 _ _ _ _ _ _)
   | (with_reducible exact LeO.refl _)
   | (with_reducible exact LeO.none _)
   | (with_reducible refine LeO.ite ?_ ?_)
   | (with_reducible refine LeO.bind ?_ (fun _ => ?_))
   | exact ih0 _ _ _ _ _ _
   | exact LeO.none _
   | refine LeO.ite ?_ ?_
   | refine LeO.bind ?_ (fun _ => ?_)
def l13_sameSteps.l0 : Nat → List (S24) → List (S26) → Int → Option (Bool)
 | 0, _, _, _ => none
 | k + 1, x0, x1, x5 => if x5 < (x0.length : Int) then (if 0 ≤ x5 then (if x5 < (x1.length : Int) then (if ((rd_T24 x0 x5).f0) = ((rd_T26 x1 x5).f0) then (if ((rd_T24 x0 x5).f1) = ((rd_T26 x1 x5).f1) then (if ((rd_T24 x0 x5).f2) = ((rd_T26 x1 x5).f2) then (if ((rd_T24 x0 x5).f3) = ((rd_T26 x1 x5).f3) then (if ((rd_T24 x0 x5).f4).toList = ((rd_T26 x1 x5).f4).toList then (l13_sameSteps.l0 k x0 x1 (wrap64 (x5 + 1))) else (none)) else (none)) else (none)) else (none)) else (none)) else (none)) else (none)) else (some true)
def l13_sameSteps.f (k : Nat) (l0 : List (S24)) (l1 : List (S26)) : Option (Bool) := if (l0.length : Int) = (l1.length : Int) then (l13_sameSteps.l0 k l0 l1 0) else (none)
theorem l13_sameSteps.mono_l : ∀ k, (∀ y0 y1 y2, LeO (l13_sameSteps.l0 k y0 y1 y2) (l13_sameSteps.l0 (k + 1) y0 y1 y2))
 | 0 => fun _ _ _ r h => by simp [l13_sameSteps.l0] at h
 | k + 1 => by
  have ih0 := l13_sameSteps.mono_l k
  ·intro y0 y1 y2
   unfold l13_sameSteps.l0
   repeat' first
   | (with_reducible exact ih0 _ _ _)
   | (with_reducible exact LeO.refl _)
   | (with_reducible exact LeO.none _)
   | (with_reducible refine LeO.ite ?_ ?_)
   | (with_reducible refine LeO.bind ?_ (fun _ => ?_))
   | exact ih0 _ _ _
   | exact LeO.none _
   | refine LeO.ite ?_ ?_
   | refine LeO.bind ?_ (fun _ => ?_)
theorem l13_sameSteps.mono : ∀ a0 a1 k, LeO (l13_sameSteps.f k a0 a1) (l13_sameSteps.f (k + 1) a0 a1) := by
 intro a0 a1 k
 have ih0 := l13_sameSteps.mono_l k
 unfold l13_sameSteps.f
 repeat' first
   | (with_reducible exact ih0 _ _ _)
   | (with_reducible exact LeO.refl _)
   | (with_reducible exact LeO.none _)
   | (with_reducible refine LeO.ite ?_ ?_)
   | (with_reducible refine LeO.bind ?_ (fun _ => ?_))
   | exact ih0 _ _ _
   | exact LeO.none _
   | refine LeO.ite ?_ ?_
   | refine LeO.bind ?_ (fun _ => ?_)
mutual
def l13_same.j0 : Nat → Bool → Int → List (S44) → ByteArray → Int → List (S46) → ByteArray → Option (Bool)
 | 0, _, _, _, _, _, _, _ => none
 | k + 1, x26, x206000, x206001, x206002, x207000, x207001, x207002 => if x26 = true then (none) else (l13_same.l0 k 0 x206000 x206001 x206002 x207000 x207001 x207002)
def l13_same.l0 : Nat → Int → Int → List (S44) → ByteArray → Int → List (S46) → ByteArray → Option (Bool)
 | 0, _, _, _, _, _, _, _ => none
 | k + 1, x5, x206000, x206001, x206002, x207000, x207001, x207002 => if x5 < (x206001.length : Int) then (if 0 ≤ x5 then (if x5 < (x207001.length : Int) then (if ((rd_T44 x206001 x5).f0) = ((rd_T46 x207001 x5).f0) then ((l13_sameSteps.f k ((rd_T44 x206001 x5).f1) ((rd_T46 x207001 x5).f1)).bind fun t211 => (if t211 = true then (l13_same.l0 k (wrap64 (x5 + 1)) x206000 x206001 x206002 x207000 x207001 x207002) else (none))) else (none)) else (none)) else (none)) else (some true)
end
def l13_same.f (k : Nat) (a0_0 : Int) (l0_1 : List (S44)) (a0_2 : ByteArray) (a1_0 : Int) (l1_1 : List (S46)) (a1_2 : ByteArray) : Option (Bool) := if a0_0 = a1_0 then (if a0_2.toList = a1_2.toList then (l13_same.j0 k ((l0_1.length : Int) != (l1_1.length : Int)) a0_0 l0_1 a0_2 a1_0 l1_1 a1_2) else (none)) else (none)
theorem l13_same.mono_l : ∀ k, (∀ y0 y1 y2 y3 y4 y5 y6, LeO (l13_same.j0 k y0 y1 y2 y3 y4 y5 y6) (l13_same.j0 (k + 1) y0 y1 y2 y3 y4 y5 y6)) ∧ (∀ y0 y1 y2 y3 y4 y5 y6, LeO (l13_same.l0 k y0 y1 y2 y3 y4 y5 y6) (l13_same.l0 (k + 1) y0 y1 y2 y3 y4 y5 y6))
 | 0 => ⟨fun _ _ _ _ _ _ _ r h => by simp [l13_same.j0] at h, fun _ _ _ _ _ _ _ r h => by simp [l13_same.l0] at h⟩
 | k + 1 => by
  obtain ⟨ih0, ih1⟩ := l13_same.mono_l k
  refine ⟨?_, ?_⟩
  ·intro y0 y1 y2 y3 y4 y5 y6
   unfold l13_same.j0
   repeat' first
   | (with_reducible exact ih1 _ _ _ _ _ _ _)
   | (with_reducible exact LeO.refl _)
   | (with_reducible exact LeO.none _)
   | (with_reducible refine LeO.ite ?_ ?_)
   | (with_reducible refine LeO.bind ?_ (fun _ => ?_))
   | exact ih1 _ _ _ _ _ _ _
   | exact LeO.none _
   | refine LeO.ite ?_ ?_
   | refine LeO.bind ?_ (fun _ => ?_)
  ·intro y0 y1 y2 y3 y4 y5 y6
   unfold l13_same.l0
   repeat' first
   | (with_reducible exact ih1 _ _ _ _ _ _ _)
   | (with_reducible exact l13_sameSteps.mono _ _ _)
   | (with_reducible exact LeO.refl _)
   | (with_reducible exact LeO.none _)
   | (with_reducible refine LeO.ite ?_ ?_)
   | (with_reducible refine LeO.bind ?_ (fun _ => ?_))
   | exact ih1 _ _ _ _ _ _ _
   | exact l13_sameSteps.mono _ _ _
   | exact LeO.none _
   | refine LeO.ite ?_ ?_
   | refine LeO.bind ?_ (fun _ => ?_)
theorem l13_same.mono : ∀ a0 a1 a2 a3 a4 a5 k, LeO (l13_same.f k a0 a1 a2 a3 a4 a5) (l13_same.f (k + 1) a0 a1 a2 a3 a4 a5) := by
 intro a0 a1 a2 a3 a4 a5 k
 obtain ⟨ih0, ih1⟩ := l13_same.mono_l k
 unfold l13_same.f
 repeat' first
   | (with_reducible exact ih0 _ _ _ _ _ _ _)
   | (with_reducible exact ih1 _ _ _ _ _ _ _)
   | (with_reducible exact l13_sameSteps.mono _ _ _)
   | (with_reducible exact LeO.refl _)
   | (with_reducible exact LeO.none _)
   | (with_reducible refine LeO.ite ?_ ?_)
   | (with_reducible refine LeO.bind ?_ (fun _ => ?_))
   | exact ih0 _ _ _ _ _ _ _
   | exact ih1 _ _ _ _ _ _ _
   | exact l13_sameSteps.mono _ _ _
   | exact LeO.none _
   | refine LeO.ite ?_ ?_
   | refine LeO.bind ?_ (fun _ => ?_)
def l13_same.T6 : Bool × List (List Nat × List Nat) := (true, [([], []), ([0], [0]), ([], []), ([1, 2], [1, 2]), ([3], [3]), ([4], [4]), ([], []), ([6], [6]), ([], []), ([7, 8], [7, 8]), ([9], [9]), ([10], [10]), ([5, 11], [5, 11]), ([12], [12]), ([13], [13]), ([14, 13], [13, 14]), ([13], [13]), ([15, 16, 13], [13, 15, 16]), ([17, 13], [13, 17]), ([18, 13], [13, 18]), ([13], [13]), ([20, 13], [13, 20]), ([13], [13]), ([21, 22, 13], [13, 21, 22]), ([23, 13], [13, 23]), ([24, 13], [13, 24]), ([19, 25, 13, 13], [13, 19, 25]), ([26, 13], [13, 26]), ([13, 27], [13, 27])])
def l13_same.B6 : List Nat := [0, 1, 0, 7, 15, 31, 0, 64, 0, 448, 960, 1984, 4095, 8191, 16383, 32767, 16383, 131071, 262143, 524287, 16383, 1064959, 16383, 7356415, 15745023, 32522239, 67108863, 134217727, 268435455]
def l13_steps.l0 : Nat → List (S24) → List (S26) → Int → Option ((List (S26)))
 | 0, _, _, _ => none
 | k + 1, x0, x3, x4 => if x4 < (x0.length : Int) then (if 0 ≤ x4 then (if x3.length < 2932031007402 then (l13_steps.l0 k x0 (x3 ++ [(⟨(rd_T24 x0 x4).f0, (rd_T24 x0 x4).f1, (rd_T24 x0 x4).f2, (rd_T24 x0 x4).f3, (rd_T24 x0 x4).f4⟩ : S26)]) (wrap64 (x4 + 1))) else (none)) else (none)) else (some x3)
def l13_steps.f (k : Nat) (l0 : List (S24)) : Option ((List (S26))) := l13_steps.l0 k l0 ([] : List (S26)) 0
theorem l13_steps.mono_l : ∀ k, (∀ y0 y1 y2, LeO (l13_steps.l0 k y0 y1 y2) (l13_steps.l0 (k + 1) y0 y1 y2))
 | 0 => fun _ _ _ r h => by simp [l13_steps.l0] at h
 | k + 1 => by
  have ih0 := l13_steps.mono_l k
  ·intro y0 y1 y2
   unfold l13_steps.l0
   repeat' first
   | (with_reducible exact ih0 _ _ _)
   | (with_reducible exact LeO.refl _)
   | (with_reducible exact LeO.none _)
   | (with_reducible refine LeO.ite ?_ ?_)
   | (with_reducible refine LeO.bind ?_ (fun _ => ?_))
   | exact ih0 _ _ _
   | exact LeO.none _
   | refine LeO.ite ?_ ?_
   | refine LeO.bind ?_ (fun _ => ?_)
theorem l13_steps.mono : ∀ a0 k, LeO (l13_steps.f k a0) (l13_steps.f (k + 1) a0) := by
 intro a0 k
 have ih0 := l13_steps.mono_l k
 unfold l13_steps.f
 repeat' first
   | (with_reducible exact ih0 _ _ _)
   | (with_reducible exact LeO.refl _)
   | (with_reducible exact LeO.none _)
   | (with_reducible refine LeO.ite ?_ ?_)
   | (with_reducible refine LeO.bind ?_ (fun _ => ?_))
   | exact ih0 _ _ _
   | exact LeO.none _
   | refine LeO.ite ?_ ?_
   | refine LeO.bind ?_ (fun _ => ?_)
mutual
def l13_built.j0 : Nat → List (List (S24)) → Bool → Int → List (S44) → ByteArray → Int → List (S46) → ByteArray → Option (Int × (List (S44)) × ByteArray × Int × (List (S46)) × ByteArray × Bool)
 | 0, _, _, _, _, _, _, _, _ => none
 | k + 1, x2, x39, x434000, x434001, x434002, x444000, x444001, x444002 => if x39 = true then (none) else (l13_built.l0 k x2 0 x434000 x434001 x434002 x444000 x444001 x444002)
def l13_built.l0 : Nat → List (List (S24)) → Int → Int → List (S44) → ByteArray → Int → List (S46) → ByteArray → Option (Int × (List (S44)) × ByteArray × Int × (List (S46)) × ByteArray × Bool)
 | 0, _, _, _, _, _, _, _, _ => none
 | k + 1, x2, x13, x434000, x434001, x434002, x444000, x444001, x444002 => if x13 < (x2.length : Int) then (if 0 ≤ x13 then ((journal_Add.f k x434000 x434001 x434002 (rd_L4 x2 x13)).bind fun bt446 => ((l13_steps.f k (rd_L4 x2 x13)).bind fun t454 => ((r13_Add.f k x444000 x444001 x444002 t454).bind fun bt457 => (if bt446.2.2.2 = bt457.2.2.2 then ((l13_same.f k bt446.1 bt446.2.1 bt446.2.2.1 bt457.1 bt457.2.1 bt457.2.2.1).bind fun t464 => (l13_built.j2 k x2 x13 bt446.2.2.2 (!t464) x434000 x434001 x434002 x444000 x444001 x444002 bt446.1 bt446.2.1 bt446.2.2.1 bt457.1 bt457.2.1 bt457.2.2.1)) else (l13_built.j2 k x2 x13 bt446.2.2.2 true x434000 x434001 x434002 x444000 x444001 x444002 bt446.1 bt446.2.1 bt446.2.2.1 bt457.1 bt457.2.1 bt457.2.2.1))))) else (none)) else (some (x434000, x434001, x434002, x444000, x444001, x444002, true))
def l13_built.j2 : Nat → List (List (S24)) → Int → Int → Bool → Int → List (S44) → ByteArray → Int → List (S46) → ByteArray → Int → List (S44) → ByteArray → Int → List (S46) → ByteArray → Option (Int × (List (S44)) × ByteArray × Int × (List (S46)) × ByteArray × Bool)
 | 0, _, _, _, _, _, _, _, _, _, _, _, _, _, _, _, _ => none
 | k + 1, x2, x13, x15, x75, x434000, x434001, x434002, x444000, x444001, x444002, x453000, x453001, x453002, x464000, x464001, x464002 => if x75 = true then (none) else (if x15 = 0 then (l13_built.l0 k x2 (wrap64 (x13 + 1)) x453000 x453001 x453002 x464000 x464001 x464002) else (l13_built.l0 k x2 (wrap64 (x13 + 1)) x434000 x434001 x434002 x444000 x444001 x444002))
end
def l13_built.f (k : Nat) (a0 : Int) (l1 : List (S24)) (l2 : List (List (S24))) : Option (Int × (List (S44)) × ByteArray × Int × (List (S46)) × ByteArray × Bool) := (journal_New.f k a0 l1).bind fun bt427 => ((l13_steps.f k l1).bind fun t434 => ((r13_New.f k a0 t434).bind fun bt437 => (if bt427.2.2.2 = bt437.2.2.2 then ((l13_same.f k bt427.1 bt427.2.1 bt427.2.2.1 bt437.1 bt437.2.1 bt437.2.2.1).bind fun t444 => (l13_built.j0 k l2 (!t444) bt427.1 bt427.2.1 bt427.2.2.1 bt437.1 bt437.2.1 bt437.2.2.1)) else (l13_built.j0 k l2 true bt427.1 bt427.2.1 bt427.2.2.1 bt437.1 bt437.2.1 bt437.2.2.1))))
theorem l13_built.mono_l : ∀ k, (∀ y0 y1 y2 y3 y4 y5 y6 y7, LeO (l13_built.j0 k y0 y1 y2 y3 y4 y5 y6 y7) (l13_built.j0 (k + 1) y0 y1 y2 y3 y4 y5 y6 y7)) ∧ (∀ y0 y1 y2 y3 y4 y5 y6 y7, LeO (l13_built.l0 k y0 y1 y2 y3 y4 y5 y6 y7) (l13_built.l0 (k + 1) y0 y1 y2 y3 y4 y5 y6 y7)) ∧ (∀ y0 y1 y2 y3 y4 y5 y6 y7 y8 y9 y10 y11 y12 y13 y14 y15, LeO (l13_built.j2 k y0 y1 y2 y3 y4 y5 y6 y7 y8 y9 y10 y11 y12 y13 y14 y15) (l13_built.j2 (k + 1) y0 y1 y2 y3 y4 y5 y6 y7 y8 y9 y10 y11 y12 y13 y14 y15))
 | 0 => ⟨fun _ _ _ _ _ _ _ _ r h => by simp [l13_built.j0] at h, fun _ _ _ _ _ _ _ _ r h => by simp [l13_built.l0] at h, fun _ _ _ _ _ _ _ _ _ _ _ _ _ _ _ _ r h => by simp [l13_built.j2] at h⟩
 | k + 1 => by
  obtain ⟨ih0, ih1, ih2⟩ := l13_built.mono_l k
  refine ⟨?_, ?_, ?_⟩
  ·intro y0 y1 y2 y3 y4 y5 y6 y7
   unfold l13_built.j0
   repeat' first
   | (with_reducible exact ih1 _ _ _ _ _ _ _ _)
   | (with_reducible exact LeO.refl _)
   | (with_reducible exact LeO.none _)
   | (with_reducible refine LeO.ite ?_ ?_)
   | (with_reducible refine LeO.bind ?_ (fun _ => ?_))
   | exact ih1 _ _ _ _ _ _ _ _
   | exact LeO.none _
   | refine LeO.ite ?_ ?_
   | refine LeO.bind ?_ (fun _ => ?_)
  ·intro y0 y1 y2 y3 y4 y5 y6 y7
   unfold l13_built.l0
   repeat' first
   | (with_reducible exact ih2 _ _ _ _ _ _ _ _ _ _ _ _ _ _ _ _)
   | (with_reducible exact journal_Add.mono _ _ _ _ _)
   | (with_reducible exact l13_same.mono _ _ _ _ _ _ _)
   | (with_reducible exact l13_steps.mono _ _)
   | (with_reducible exact r13_Add.mono _ _ _ _ _)
   | (with_reducible exact LeO.refl _)
   | (with_reducible exact LeO.none _)
   | (with_reducible refine LeO.ite ?_ ?_)
   | (with_reducible refine LeO.bind ?_ (fun _ => ?_))
   | exact ih2 _ _ _ _ _ _ _ _ _ _ _ _ _ _ _ _
   | exact journal_Add.mono _ _ _ _ _
   | exact l13_same.mono _ _ _ _ _ _ _
   | exact l13_steps.mono _ _
   | exact r13_Add.mono _ _ _ _ _
   | exact LeO.none _
   | refine LeO.ite ?_ ?_
   | refine LeO.bind ?_ (fun _ => ?_)
  ·intro y0 y1 y2 y3 y4 y5 y6 y7 y8 y9 y10 y11 y12 y13 y14 y15
   unfold l13_built.j2
   repeat' first
   | (with_reducible exact ih1 _ _ _ _ _ _ _ _)
   | (with_reducible exact LeO.refl _)
   | (with_reducible exact LeO.none _)
   | (with_reducible refine LeO.ite ?_ ?_)
   | (with_reducible refine LeO.bind ?_ (fun _ => ?_))
   | exact ih1 _ _ _ _ _ _ _ _
   | exact LeO.none _
   | refine LeO.ite ?_ ?_
   | refine LeO.bind ?_ (fun _ => ?_)
theorem l13_built.mono : ∀ a0 a1 a2 k, LeO (l13_built.f k a0 a1 a2) (l13_built.f (k + 1) a0 a1 a2) := by
 intro a0 a1 a2 k
 obtain ⟨ih0, ih1, ih2⟩ := l13_built.mono_l k
 unfold l13_built.f
 repeat' first
   | (with_reducible exact ih0 _ _ _ _ _ _ _ _)
   | (with_reducible exact ih1 _ _ _ _ _ _ _ _)
   | (with_reducible exact ih2 _ _ _ _ _ _ _ _ _ _ _ _ _ _ _ _)
   | (with_reducible exact journal_Add.mono _ _ _ _ _)
   | (with_reducible exact journal_New.mono _ _ _)
   | (with_reducible exact l13_same.mono _ _ _ _ _ _ _)
   | (with_reducible exact l13_steps.mono _ _)
   | (with_reducible exact r13_Add.mono _ _ _ _ _)
   | (with_reducible exact r13_New.mono _ _ _)
   | (with_reducible exact LeO.refl _)
   | (with_reducible exact LeO.none _)
   | (with_reducible refine LeO.ite ?_ ?_)
   | (with_reducible refine LeO.bind ?_ (fun _ => ?_))
   | exact ih0 _ _ _ _ _ _ _ _
   | exact ih1 _ _ _ _ _ _ _ _
   | exact ih2 _ _ _ _ _ _ _ _ _ _ _ _ _ _ _ _
   | exact journal_Add.mono _ _ _ _ _
   | exact journal_New.mono _ _ _
   | exact l13_same.mono _ _ _ _ _ _ _
   | exact l13_steps.mono _ _
   | exact r13_Add.mono _ _ _ _ _
   | exact r13_New.mono _ _ _
   | exact LeO.none _
   | refine LeO.ite ?_ ?_
   | refine LeO.bind ?_ (fun _ => ?_)
def l13_built.T8 : Bool × List (List Nat × List Nat) := (true, [([], []), ([], []), ([], []), ([1, 2], [1, 2]), ([3], [3]), ([0, 4], [0, 4]), ([5], [5]), ([6], [6]), ([6], [6]), ([], []), ([9, 7, 5, 0, 1, 2, 3, 4, 5, 6, 7, 9], [7, 9]), ([8, 10, 0, 1, 2, 3, 4, 5, 6, 7, 8, 9, 10], [8])])
def l13_built.B8 : List Nat := [0, 0, 0, 6, 14, 31, 63, 127, 127, 0, 767, 2047]
def l13_built.T9 : Bool × List (List Nat × List Nat) := (true, [([], []), ([], []), ([], []), ([1, 2], [1, 2]), ([3], [3]), ([4], [4]), ([0, 5, 5], [0, 5]), ([6], [6]), ([7], [7]), ([7], [7]), ([], []), ([10, 8, 6, 0, 1, 2, 3, 4, 5, 6, 7, 8, 10], [8, 10]), ([9, 11, 0, 1, 2, 3, 4, 5, 6, 7, 8, 9, 10, 11], [9])])
def l13_built.B9 : List Nat := [0, 0, 0, 6, 14, 30, 63, 127, 255, 255, 0, 1535, 4095]
def l13_shortSteps.l0 : Nat → List (S24) → Int → Option (Bool)
 | 0, _, _ => none
 | k + 1, x0, x3 => if x3 < (x0.length : Int) then (if 0 ≤ x3 then (if (((rd_T24 x0 x3).f4).size : Int) > 200 then (some false) else (l13_shortSteps.l0 k x0 (wrap64 (x3 + 1)))) else (none)) else (some true)
def l13_shortSteps.f (k : Nat) (l0 : List (S24)) : Option (Bool) := if (l0.length : Int) > 60 then (some false) else (l13_shortSteps.l0 k l0 0)
theorem l13_shortSteps.mono_l : ∀ k, (∀ y0 y1, LeO (l13_shortSteps.l0 k y0 y1) (l13_shortSteps.l0 (k + 1) y0 y1))
 | 0 => fun _ _ r h => by simp [l13_shortSteps.l0] at h
 | k + 1 => by
  have ih0 := l13_shortSteps.mono_l k
  ·intro y0 y1
   unfold l13_shortSteps.l0
   repeat' first
   | (with_reducible exact ih0 _ _)
   | (with_reducible exact LeO.refl _)
   | (with_reducible exact LeO.none _)
   | (with_reducible refine LeO.ite ?_ ?_)
   | (with_reducible refine LeO.bind ?_ (fun _ => ?_))
   | exact ih0 _ _
   | exact LeO.none _
   | refine LeO.ite ?_ ?_
   | refine LeO.bind ?_ (fun _ => ?_)
theorem l13_shortSteps.mono : ∀ a0 k, LeO (l13_shortSteps.f k a0) (l13_shortSteps.f (k + 1) a0) := by
 intro a0 k
 have ih0 := l13_shortSteps.mono_l k
 unfold l13_shortSteps.f
 repeat' first
   | (with_reducible exact ih0 _ _)
   | (with_reducible exact LeO.refl _)
   | (with_reducible exact LeO.none _)
   | (with_reducible refine LeO.ite ?_ ?_)
   | (with_reducible refine LeO.bind ?_ (fun _ => ?_))
   | exact ih0 _ _
   | exact LeO.none _
   | refine LeO.ite ?_ ?_
   | refine LeO.bind ?_ (fun _ => ?_)
set_option maxHeartbeats 8000000 in
set_option maxRecDepth 100000 in
theorem l13_shortSteps.calls (k : Nat) (A0 : Option Addr) (c0 : Nat) (l0 : List (S24)) (r : Bool) (w : World) (hr0 : Kd.C k24 w A0 l0.length l0) (hc0 : l0.length ≤ c0) (h : l13_shortSteps.f k l0 = some r) :
  Calls Tryd.prog 32 #[.slice A0 l0.length c0] w fun e w' => e = .returned (.bool r) ∧ Drawn0 w w' := by
 have HR0 := Ax.mk hr0
 have HC0 := Ax.mk hc0
 clear hr0 hc0
 have H : (if (l0.length : Int) > 60 then (some false) else (l13_shortSteps.l0 k l0 0)) = some r := h
 clear h
 by_cases c2 : (l0.length : Int) > 60
 ·rw [if_pos c2] at H
  have c2b0 : decide (60 < (l0.length : Int)) = true := decide_eq_true c2
  have c2b1 : decide (60 < l0.length) = true := decide_eq_true (by omega)
  clear c2
  obtain rfl := Option.some.inj H
  go_enter Tryd.func32, Tryd.ntmps32
  go_wp2
  go_ret
  exact ⟨by first | rfl | (simp; done) | (simp [*]; done), by repeat (first | exact Drawn0.refl _ | apply Drawn0.step)⟩
 ·rw [if_neg c2] at H
  have c2b0 : decide (60 < (l0.length : Int)) = false := decide_eq_false c2
  have c2b1 : decide (60 < l0.length) = false := decide_eq_false (by omega)
  clear c2
  have H' := Ax.mk H
  clear H
  go_enter Tryd.func32, Tryd.ntmps32
  go_wp2
  go_loopg [3] k (fun kq v3 w' => ∃ (x3_1 : Int), v3 = .int .i64 x3_1 ∧ Ax (l13_shortSteps.l0 kq l0 x3_1 = some r) ∧ Ax (kq ≤ k) ∧ Drawn0 w w')
  case atStart => exact ⟨(0), (by first | rfl | (simp; done) | (simp [*]; done)), H', ⟨Nat.le_refl _⟩, by repeat (first | exact Drawn0.refl _ | apply Drawn0.step)⟩
  case round =>
   clear H'
   try clear c2
   try clear c2b0
   try clear c2b1
   try clear p2
   obtain ⟨x3_1, rfl, HA, HK1, ⟨m1, rfl⟩⟩ := hrel
   cases gk with
   | zero => exact absurd HA.out (by simp [l13_shortSteps.l0])
   | succ k1 =>
    have H := HA.out
    clear HA
    simp only [l13_shortSteps.l0] at H
    by_cases c3 : x3_1 < (l0.length : Int)
    ·rw [if_pos c3] at H
     have c3b0 : decide (x3_1 < (l0.length : Int)) = true := decide_eq_true c3
     clear c3
     by_cases c4 : 0 ≤ x3_1
     ·rw [if_pos c4] at H
      have c4b0 : decide (0 ≤ x3_1) = true := decide_eq_true c4
      clear c4
      by_cases c5 : (((rd_T24 l0 x3_1).f4).size : Int) > 200
      ·rw [if_pos c5] at H
       have c5b0 : decide (200 < (((rd_T24 l0 x3_1).f4).size : Int)) = true := decide_eq_true c5
       have c5b1 : decide (200 < ((rd_T24 l0 x3_1).f4).size) = true := decide_eq_true (by omega)
       clear c5
       obtain rfl := Option.some.inj H
       have p333 : 0 ≤ (x3_1 : Int) := ofD
       have q333 : x3_1 < (l0.length : Int) := ofD
       obtain ⟨ad333, e333, hx333_0, hx333_1, hx333_2, hx333_3, hx333_4⟩ := at_T24 HR0.out x3_1 p333 q333
       cases e333
       replace p333 := eq_true p333
       replace q333 := eq_true q333
       go_wp2
       go_ret
       exact ⟨by first | rfl | (simp; done) | (simp [*]; done), by repeat (first | exact Drawn0.refl _ | apply Drawn0.step)⟩
      ·rw [if_neg c5] at H
       have c5b0 : decide (200 < (((rd_T24 l0 x3_1).f4).size : Int)) = false := decide_eq_false c5
       have c5b1 : decide (200 < ((rd_T24 l0 x3_1).f4).size) = false := decide_eq_false (by omega)
       clear c5
       have H' := Ax.mk H
       clear H
       have p333 : 0 ≤ (x3_1 : Int) := ofD
       have q333 : x3_1 < (l0.length : Int) := ofD
       obtain ⟨ad333, e333, hx333_0, hx333_1, hx333_2, hx333_3, hx333_4⟩ := at_T24 HR0.out x3_1 p333 q333
       cases e333
       replace p333 := eq_true p333
       replace q333 := eq_true q333
       go_wp2
       go_roundg k1
       case measure => have := HK1.out; omega
       case rel => exact ⟨(wrap64 (x3_1 + 1)), (by first | rfl | (simp; done) | (simp [*]; done)), H', ⟨by have := HK1.out; omega⟩, by repeat (first | exact Drawn0.refl _ | apply Drawn0.step)⟩
     ·rw [if_neg c4] at H
      exact absurd H (by simp)
    ·rw [if_neg c3] at H
     have c3b0 : decide (x3_1 < (l0.length : Int)) = false := decide_eq_false c3
     clear c3
     obtain rfl := Option.some.inj H
     go_wp2
     go_ret
     exact ⟨by first | rfl | (simp; done) | (simp [*]; done), by repeat (first | exact Drawn0.refl _ | apply Drawn0.step)⟩
end Go.Proofs.YtboommbclbjlnaaDoor.Fn
end
