-- Packed by pack.py, a program of this session, out of texts of this claim.
import Derived.Test.YtcgejogmiglalaaDoorProg
import Derived.Below
import Derived.Deep.Draws
import Derived.Deep.AppendLies
import Derived.Maps.AppendAt
import Derived.OwnWalk
import Derived.Laws.BytesArg
import Derived.Laws.MakeOwn
import Derived.Laws.OwnMore
import Derived.Deep.OwnRows
import Derived.Tactics
import Derived.Lib.ConvBytes
import Derived.Laws.Slices
import Derived.WalkKit
import Derived.KernelRfl
import Derived.RowKit3
import Derived.Deep.LoopGhost
import Derived.Deep.QuietTactic
import Derived.BigQuiet
import Derived.WideLaws
import Derived.Deep.DeepCutAuto
import Derived.Deep.CutBlock
import Derived.Deep.RegionHeld3
import Derived.Laws.Rows
import Derived.Lib.AppendStr
import Derived.ArgAppend
import Derived.Laws.IdiomCopy
import Derived.OrdersHeld
import Derived.Laws.BitsLemmas
import Derived.RowKit
import Derived.Test.YtcgejogmiglalaaDoorLfLe
import Derived.Test.YtcgejogmiglalaaDoorLfSum
import Derived.Test.YtcgejogmiglalaaDoorClHeadNotLfBytes
import Derived.Test.YtcgejogmiglalaaDoorClHeadNot0
import Derived.LoopTactic
import Derived.Lib.Hide
import Derived.Test.YtcgejogmiglalaaDoorLfShelf
import Derived.Test.YtcgejogmiglalaaDoorLfBuild
import Derived.Lib.Repeat
import Derived.Defers
import Derived.RegionTactic
section
-- Written by printx.py, a program of this session over the kit's print: each Go function as a plain Lean function, and that the Go code computes it.
namespace Go.Proofs.YtcgejogmiglalaaDoor.Fn
open Go.RowKit Go.Proofs.YtcgejogmiglalaaDoorW.PrintWords Go.Proofs.YtcgejogmiglalaaDoorW.PrintLast Go.Proofs.YtcgejogmiglalaaDoorW.PrintMore Go.Proofs.YtcgejogmiglalaaDoor.Lf
attribute [local go_sem] max2_int min2_int max_two min_two max_three min_three max_four min_four   -- for this text's walks alone
set_option linter.unusedVariables false
set_option linter.unusedSimpArgs false
def errW : Option Int → Value
 | none => .nilIface
 | some c => .iface 0 (.int .i64 c)
theorem errW_none : errW none = .nilIface := rfl
theorem errW_some (c : Int) : errW (some c) = .iface 0 (.int .i64 c) := rfl
theorem info5 : (Tryd.prog.info? 5).map (fun i => (i.zero, i.size, i.bytes)) = some (some (.int .u8 0), 1, 1) := by kernel_rfl
theorem info53 : (Tryd.prog.info? 53).map (fun i => (i.zero, i.size, i.bytes)) = some (some (.agg #[(.int .i64 0), (.int .i64 0)]), 2, 16) := by kernel_rfl
structure S53 where
 f0 : Int
 f1 : Int
def z53 : S53 := ⟨(0 : Int), (0 : Int)⟩
def k53 : Kd S53 := Kd.iso (Kd.pair (Kd.int .i64) (Kd.int .i64)) (fun x : S53 => (x.f0, x.f1))
theorem k53_open {w : World} {x : S53} {cs : List Value} (h : k53.K w x cs) : cs = [.int .i64 x.f0, .int .i64 x.f1] := by
 obtain ⟨_, _, rfl, rfl, rfl⟩ := h
 exact rfl
theorem k53_mk (w : World) (x : S53)  : k53.K w x [.int .i64 x.f0, .int .i64 x.f1] := ⟨[.int .i64 x.f0], [.int .i64 x.f1], rfl, rfl, rfl⟩
theorem k53_mkM (w : World) (base : Nat) (ok : Nat → Prop) (x : S53)  : k53.M w base ok x [.int .i64 x.f0, .int .i64 x.f1] := ⟨[.int .i64 x.f0], [.int .i64 x.f1], rfl, rfl, rfl⟩
def rd_T53 (xs : List S53) (i : Int) : S53 := xs.getD i.toNat z53
theorem at_T53 {w : World} {A : Option Addr} {n : Nat} {xs : List S53} (h : Kd.C k53 w A n xs) (i : Int) (h0 : 0 ≤ i) (h1 : i < n) : ∃ ad , A = some ad ∧ w.cell? (ad.add (i.toNat * 2)) = some (.int .i64 (rd_T53 xs i).f0) ∧ w.cell? ⟨(ad.add (i.toNat * 2)).block, (ad.add (i.toNat * 2)).off + 1, none⟩ = some (.int .i64 (rd_T53 xs i).f1) := by
 obtain ⟨ad, c, e, _, hK, hc0⟩ := Kd.C_get h z53 i h0 h1
 have hc : ∀ j u, c[j]? = some u → w.cell? (ad.add (i.toNat * 2 + j)) = some u := hc0
 obtain rfl := k53_open hK
 exact ⟨ad, e, hc 0 _ rfl, by rw [← add_field _ _ 1 (by omega)]; exact hc 1 _ rfl⟩
def rd_L3 (xs : List (List S53)) (i : Int) : (List S53) := xs.getD i.toNat ([] : List S53)
structure S25 where
 f0 : Int
 f1 : Int
 f2 : Int
 f3 : (List S53)
def z25 : S25 := ⟨(0 : Int), (0 : Int), (0 : Int), ([] : List S53)⟩
def k25 : Kd S25 := Kd.iso (Kd.pair (Kd.int .u64) (Kd.pair (Kd.int .i64) (Kd.pair (Kd.int .i64) (Kd.slice 53 k53)))) (fun x : S25 => (x.f0, x.f1, x.f2, x.f3))
def rd_T25 (xs : List S25) (i : Int) : S25 := xs.getD i.toNat z25
structure S31 where
 f0 : Int
 f1 : Int
 f2 : Int
 f3 : (List S53)
def z31 : S31 := ⟨(0 : Int), (0 : Int), (0 : Int), ([] : List S53)⟩
def k31 : Kd S31 := Kd.iso (Kd.pair (Kd.int .u64) (Kd.pair (Kd.int .i64) (Kd.pair (Kd.int .i64) (Kd.slice 53 k53)))) (fun x : S31 => (x.f0, x.f1, x.f2, x.f3))
def rd_T31 (xs : List S31) (i : Int) : S31 := xs.getD i.toNat z31
def seal_Put.f (a0 : ByteArray) : Option (ByteArray) := (seal_Sum.f a0).bind fun t108 => ((le_Put.f (IntKind.u64.wrap (t108)) 4).bind fun t109 => (if a0.size + t109.size ≤ 9223372036854775807 then (some (a0 ++ t109)) else (none)))
set_option maxHeartbeats 8000000 in
set_option maxRecDepth 100000 in
theorem seal_Put.calls (a0 : ByteArray) (r : ByteArray) (w : World) (h : seal_Put.f a0 = some r) :
  Calls Tryd.prog 25 #[.string a0] w fun e w' => e = .returned (.string r) ∧ Below w.heap.size w w' := by
 have HB := Ax.mk (Below.refl w.heap.size w)
 have H : ((seal_Sum.f a0).bind fun t108 => ((le_Put.f (IntKind.u64.wrap (t108)) 4).bind fun t109 => (if a0.size + t109.size ≤ 9223372036854775807 then (some (a0 ++ t109)) else (none)))) = some r := h
 clear h
 replace H := Option.bind_eq_some_iff.mp H
 obtain ⟨t108, A20, H⟩ := H
 replace H : ((le_Put.f (IntKind.u64.wrap (t108)) 4).bind fun t109 => (if a0.size + t109.size ≤ 9223372036854775807 then (some (a0 ++ t109)) else (none))) = some r := H
 have A2 := Ax.mk A20
 clear A20
 replace H := Option.bind_eq_some_iff.mp H
 obtain ⟨t109, A30, H⟩ := H
 replace H : (if a0.size + t109.size ≤ 9223372036854775807 then (some (a0 ++ t109)) else (none)) = some r := H
 have A3 := Ax.mk A30
 clear A30
 by_cases c4 : a0.size + t109.size ≤ 9223372036854775807
 ·rw [if_pos c4] at H
  have c4b0 := eq_true c4
  have c4b1 : decide (a0.size + t109.size ≤ 9223372036854775807) = true := decide_eq_true c4
  try have c4b2 : (9223372036854775807 < a0.size + t109.size) = False := eq_false (Nat.not_lt.2 c4)
  obtain rfl := Option.some.inj H
  go_enter Tryd.func25, Tryd.ntmps25
  go_wp2_with (first | ((with_reducible refine gate_callee (f := 49) rfl ?_); refine goesL_ (some 5) rfl rfl Tryd.func49 (by kernel_rfl) rfl #[.string a0] rfl (by (try simp only [List.map_toArray, List.map_cons, List.map_nil]); first | done | rfl | (simp only [List.length_drop, List.length_take]; rfl) | (rw [wrap_sum2 (by assumption)]; rfl)) ?_; (with_reducible refine (seal_Sum.calls a0 t108 _ A2.out).mono ?_); rintro e w5 ⟨rfl, hb⟩; refine ⟨_, rfl, ?_⟩; have n0_ := Ax.mk (bP bA hb); clear HB; have HB := n0_; clear n0_; (try clear hb); (try clear hb2); (try clear hk); (try clear hi)) | ((with_reducible refine gate_callee (f := 22) rfl ?_); refine goesL_ (some 7) rfl rfl Tryd.func22 (by kernel_rfl) rfl #[.int .u64 (IntKind.u64.wrap (t108)), .int .i64 4] rfl (by (try simp only [List.map_toArray, List.map_cons, List.map_nil]); first | done | rfl | (simp only [List.length_drop, List.length_take]; rfl) | (rw [wrap_sum2 (by assumption)]; rfl)) ?_; (with_reducible refine (le_Put.calls (IntKind.u64.wrap (t108)) 4 t109 _ A3.out).mono ?_); rintro e w6 ⟨rfl, hb⟩; refine ⟨_, rfl, ?_⟩; have n0_ := Ax.mk (bP bA hb); clear HB; have HB := n0_; clear n0_; (try clear hb); (try clear hb2); (try clear hk); (try clear hi)))
  go_ret
  exact ⟨by first | rfl | (simp [errW_none, errW_some] <;> rfl) | (simp [*, errW_none, errW_some] <;> rfl), bA⟩
 ·rw [if_neg c4] at H
  exact absurd H (by simp)
def r2_Put.l0 : Nat → Int → Int → List Int → Int → Option (ByteArray)
 | 0, _, _, _, _ => none
 | k + 1, x0, x1, x5, x6 => if x6 < x1 then (if x6 < 8 then (if x5.length < 140737488355328 then (r2_Put.l0 k (IntKind.u64.wrap (Int.tdiv x0 256)) x1 (x5 ++ [(Int.tmod x0 256) % 256]) (wrap64 (x6 + 1))) else (none)) else (some (strOfNums x5))) else (some (strOfNums x5))
def r2_Put.f (k : Nat) (a0 : Int) (a1 : Int) : Option (ByteArray) := r2_Put.l0 k a0 a1 ([] : List Int) 0
theorem r2_Put.mono_l : ∀ k, (∀ y0 y1 y2 y3, LeO (r2_Put.l0 k y0 y1 y2 y3) (r2_Put.l0 (k + 1) y0 y1 y2 y3))
 | 0 => fun _ _ _ _ r h => by simp [r2_Put.l0] at h
 | k + 1 => by
  have ih0 := r2_Put.mono_l k
  ·intro y0 y1 y2 y3
   unfold r2_Put.l0
   repeat' first
   | (with_reducible exact ih0 _ _ _ _)
   | (with_reducible exact LeO.refl _)
   | (with_reducible exact LeO.none _)
   | (with_reducible refine LeO.ite ?_ ?_)
   | (with_reducible refine LeO.bind ?_ (fun _ => ?_))
   | exact ih0 _ _ _ _
   | exact LeO.none _
   | refine LeO.ite ?_ ?_
   | refine LeO.bind ?_ (fun _ => ?_)
theorem r2_Put.mono : ∀ a0 a1 k, LeO (r2_Put.f k a0 a1) (r2_Put.f (k + 1) a0 a1) := by
 intro a0 a1 k
 have ih0 := r2_Put.mono_l k
 unfold r2_Put.f
 repeat' first
   | (with_reducible exact ih0 _ _ _ _)
   | (with_reducible exact LeO.refl _)
   | (with_reducible exact LeO.none _)
   | (with_reducible refine LeO.ite ?_ ?_)
   | (with_reducible refine LeO.bind ?_ (fun _ => ?_))
   | exact ih0 _ _ _ _
   | exact LeO.none _
   | refine LeO.ite ?_ ?_
   | refine LeO.bind ?_ (fun _ => ?_)
set_option maxHeartbeats 8000000 in
set_option maxRecDepth 100000 in
theorem r2_Put.calls (k : Nat) (a0 : Int) (a1 : Int) (r : ByteArray) (w : World) (h : r2_Put.f k a0 a1 = some r) :
  Calls Tryd.prog 27 #[.int .u64 a0, .int .i64 a1] w fun e w' => e = .returned (.string r) ∧ Below w.heap.size w w' := by
 have HB := Ax.mk (Below.refl w.heap.size w)
 have H : (r2_Put.l0 k a0 a1 ([] : List Int) 0) = some r := h
 clear h
 have H' := Ax.mk H
 clear H
 go_enter Tryd.func27, Tryd.ntmps27
 go_wp2
 go_loopg [0, 5, 6] k (fun kq v0 v5 v6 w' => ∃ (x0_1 : Int) (x5_1 : List Int) (x6_1 : Int), v0 = .int .u64 x0_1 ∧ v6 = .int .i64 x6_1 ∧ Ax (r2_Put.l0 kq x0_1 a1 x5_1 x6_1 = some r) ∧ Ax (kq ≤ k) ∧ Ax (Kd.R (Kd.int .u8) 5 w' w.heap.size (fun _ => True) v5 x5_1) ∧ Ax (Below w.heap.size w w'))
 case atStart => exact ⟨(a0), (([] : List Int)), (0), (by first | rfl | (simp; done) | (simp [*]; done)), (by first | rfl | (simp; done) | (simp [*]; done)), H', ⟨Nat.le_refl _⟩, ⟨by first | exact Kd.R_nil _ _ _ _ _ | exact Kd.N_nil _ _ _ _ _ | exact Kd.V_nil _ _ _ _ _ | exact Kd.Q_nil _ _ _ _ _ | exact Kd.S_nil _ _ _ _ _⟩, ⟨bA⟩⟩
 case round =>
  clear H'
  try clear c2
  try clear p2
  obtain ⟨x0_1, x5_1, x6_1, rfl, rfl, HA, HK1, HO_5, HB⟩ := hrel
  cases gk with
  | zero => exact absurd HA.out (by simp [r2_Put.l0])
  | succ k1 =>
   have H := HA.out
   clear HA
   simp only [r2_Put.l0] at H
   by_cases c3 : x6_1 < a1
   ·rw [if_pos c3] at H
    have c3b0 : decide (x6_1 < a1) = true := decide_eq_true c3
    clear c3
    by_cases c4 : x6_1 < 8
    ·rw [if_pos c4] at H
     have c4b0 : decide (x6_1 < 8) = true := decide_eq_true c4
     clear c4
     by_cases c5 : x5_1.length < 140737488355328
     ·rw [if_pos c5] at H
      have LMc5 := Ax.mk c5
      clear c5
      obtain ⟨y206, hy206⟩ : ∃ y_ : List Int, y_ = (x5_1 ++ [(Int.tmod x0_1 256) % 256]) := ⟨_, rfl⟩
      replace H : (r2_Put.l0 k1 (IntKind.u64.wrap (Int.tdiv x0_1 256)) a1 y206 (wrap64 (x6_1 + 1))) = some r := by first | (rw [hy206]; with_reducible exact H) | (have H2_ := (Option.bind_some _ _).symm.trans H; rw [hy206]; with_reducible exact H2_) | (have H2_ := (Option.bind_some _ _).symm.trans H; with_reducible exact H2_) | with_reducible exact H | (rw [hy206]; exact H) | exact H
      have Ny206 := Ax.mk hy206
      clear hy206
      have H' := Ax.mk H
      clear H
      go_wp2_with (first | ((with_reducible refine gate_builtin (b := .append) (xs := #[.tmp 16, .tmp 20]) rfl ?_); at_builtin; refine Kd.R_append (Kd.int .u8) (w0 := w) w.heap.size rfl (.tmp 16) (.tmp 20) 48 5 (.int .u8 0) 1 rfl Tryd.underlying48 info5 rfl (by decide) (by omega) u5 x5_1 ((Int.tmod x0_1 256) % 256) [.int .u8 ((Int.tmod x0_1 256) % 256)] (fun _ => True) (fun _ => False) rfl rfl ?aP (fun _ hk => hk.elim) ?aF ?aO ?aB ?aS ?aL ?_; (case aP => exact rfl); (case aB => exact bA); (case aF => exact (fun _ _ => trivial)); (case aO => exact (by exact Kd.R_to HO_5.out)); (case aS => exact (bS bA)); (case aL => have := LMc5.out; omega); intro v207 w6 ho hb hg hat; rw [← Ny206.out] at ho; have n0_ := Ax.mk (hb); have n1_ := Ax.mk (ho); clear HB; clear HO_5; have HB := n0_; have HO208 := n1_; clear n0_ n1_; clear ho hb hg hat))
      go_roundg k1
      case measure => have := HK1.out; omega
      case rel => exact ⟨(IntKind.u64.wrap (Int.tdiv x0_1 256)), (y206), (wrap64 (x6_1 + 1)), (by first | rfl | (simp; done) | (simp [*]; done)), (by first | rfl | (simp; done) | (simp [*]; done)), H', ⟨by have := HK1.out; omega⟩, ⟨by apply Kd.R_to; exact HO208.out⟩, ⟨bA⟩⟩
     ·rw [if_neg c5] at H
      exact absurd H (by simp)
    ·rw [if_neg c4] at H
     have c4b0 : decide (x6_1 < 8) = false := decide_eq_false c4
     clear c4
     obtain rfl := Option.some.inj H
     have hcv7 := own_string (P := Tryd.prog) Tryd.underlying48 Tryd.underlying5 Tryd.underlying9 (Kd.own_of_R HO_5.out)
     go_wp2
     go_ret
     exact ⟨by first | rfl | (simp [errW_none, errW_some] <;> rfl) | (simp [*, errW_none, errW_some] <;> rfl), bA⟩
   ·rw [if_neg c3] at H
    have c3b0 : decide (x6_1 < a1) = false := decide_eq_false c3
    clear c3
    obtain rfl := Option.some.inj H
    have hcv8 := own_string (P := Tryd.prog) Tryd.underlying48 Tryd.underlying5 Tryd.underlying9 (Kd.own_of_R HO_5.out)
    go_wp2
    go_ret
    exact ⟨by first | rfl | (simp [errW_none, errW_some] <;> rfl) | (simp [*, errW_none, errW_some] <;> rfl), bA⟩
mutual
def r3_Sum.l0 : Nat → ByteArray → Int → Int → Option (Int)
 | 0, _, _, _ => none
 | k + 1, x0, x3, x4 => if x4 < (x0.size : Int) then (if 0 ≤ x4 then (r3_Sum.l1 k x0 x3 x4 ((bt x0 x4) % 4294967296) 0) else (none)) else (some (Go.bits .xor .u32 x3 4294967295))
def r3_Sum.l1 : Nat → ByteArray → Int → Int → Int → Int → Option (Int)
 | 0, _, _, _, _, _ => none
 | k + 1, x0, x3, x4, x5, x6 => if x6 < 8 then (if (Go.bits .and .u32 (Go.bits .xor .u32 x3 x5) 1) = 1 then (r3_Sum.l1 k x0 (Go.bits .xor .u32 ((Int.tdiv x3 2) % 4294967296) 3988292384) x4 ((Int.tdiv x5 2) % 4294967296) (wrap64 (x6 + 1))) else (r3_Sum.l1 k x0 ((Int.tdiv x3 2) % 4294967296) x4 ((Int.tdiv x5 2) % 4294967296) (wrap64 (x6 + 1)))) else (r3_Sum.l0 k x0 x3 (wrap64 (x4 + 1)))
end
def r3_Sum.f (k : Nat) (a0 : ByteArray) : Option (Int) := r3_Sum.l0 k a0 4294967295 0
theorem r3_Sum.mono_l : ∀ k, (∀ y0 y1 y2, LeO (r3_Sum.l0 k y0 y1 y2) (r3_Sum.l0 (k + 1) y0 y1 y2)) ∧ (∀ y0 y1 y2 y3 y4, LeO (r3_Sum.l1 k y0 y1 y2 y3 y4) (r3_Sum.l1 (k + 1) y0 y1 y2 y3 y4))
 | 0 => ⟨fun _ _ _ r h => by simp [r3_Sum.l0] at h, fun _ _ _ _ _ r h => by simp [r3_Sum.l1] at h⟩
 | k + 1 => by
  obtain ⟨ih0, ih1⟩ := r3_Sum.mono_l k
  refine ⟨?_, ?_⟩
  ·intro y0 y1 y2
   unfold r3_Sum.l0
   repeat' first
   | (with_reducible exact ih0 _ _ _)
   | (with_reducible exact ih1 _ _ _ _ _)
   | (with_reducible exact LeO.refl _)
   | (with_reducible exact LeO.none _)
   | (with_reducible refine LeO.ite ?_ ?_)
   | (with_reducible refine LeO.bind ?_ (fun _ => ?_))
   | exact ih0 _ _ _
   | exact ih1 _ _ _ _ _
   | exact LeO.none _
   | refine LeO.ite ?_ ?_
   | refine LeO.bind ?_ (fun _ => ?_)
  ·intro y0 y1 y2 y3 y4
   unfold r3_Sum.l1
   repeat' first
   | (with_reducible exact ih0 _ _ _)
   | (with_reducible exact ih1 _ _ _ _ _)
   | (with_reducible exact LeO.refl _)
   | (with_reducible exact LeO.none _)
   | (with_reducible refine LeO.ite ?_ ?_)
   | (with_reducible refine LeO.bind ?_ (fun _ => ?_))
   | exact ih0 _ _ _
   | exact ih1 _ _ _ _ _
   | exact LeO.none _
   | refine LeO.ite ?_ ?_
   | refine LeO.bind ?_ (fun _ => ?_)
theorem r3_Sum.mono : ∀ a0 k, LeO (r3_Sum.f k a0) (r3_Sum.f (k + 1) a0) := by
 intro a0 k
 obtain ⟨ih0, ih1⟩ := r3_Sum.mono_l k
 unfold r3_Sum.f
 repeat' first
   | (with_reducible exact ih0 _ _ _)
   | (with_reducible exact ih1 _ _ _ _ _)
   | (with_reducible exact LeO.refl _)
   | (with_reducible exact LeO.none _)
   | (with_reducible refine LeO.ite ?_ ?_)
   | (with_reducible refine LeO.bind ?_ (fun _ => ?_))
   | exact ih0 _ _ _
   | exact ih1 _ _ _ _ _
   | exact LeO.none _
   | refine LeO.ite ?_ ?_
   | refine LeO.bind ?_ (fun _ => ?_)
set_option maxHeartbeats 8000000 in
set_option maxRecDepth 100000 in
theorem r3_Sum.calls (k : Nat) (a0 : ByteArray) (r : Int) (w : World) (h : r3_Sum.f k a0 = some r) :
  Calls Tryd.prog 36 #[.string a0] w fun e w' => e = .returned (.int .u32 r) ∧ Drawn0 w w' := by
 have H : (r3_Sum.l0 k a0 4294967295 0) = some r := h
 clear h
 have H' := Ax.mk H
 clear H
 go_enter Tryd.func36, Tryd.ntmps36
 go_wp2
 go_loopg [3, 4] k (fun kq v3 v4 w' => ∃ (x3_1 : Int) (x4_1 : Int), v3 = .int .u32 x3_1 ∧ v4 = .int .i64 x4_1 ∧ Ax (r3_Sum.l0 kq a0 x3_1 x4_1 = some r) ∧ Ax (kq ≤ k) ∧ Drawn0 w w')
 case atStart => exact ⟨(4294967295), (0), (by first | rfl | (simp; done) | (simp [*]; done)), (by first | rfl | (simp; done) | (simp [*]; done)), H', ⟨Nat.le_refl _⟩, by repeat (first | exact Drawn0.refl _ | apply Drawn0.step)⟩
 case round =>
  clear H'
  obtain ⟨x3_1, x4_1, rfl, rfl, HA, HK1, ⟨m1, rfl⟩⟩ := hrel
  cases gk with
  | zero => exact absurd HA.out (by simp [r3_Sum.l0])
  | succ k1 =>
   have H := HA.out
   clear HA
   simp only [r3_Sum.l0] at H
   by_cases c2 : x4_1 < (a0.size : Int)
   ·rw [if_pos c2] at H
    have c2b0 : decide (x4_1 < (a0.size : Int)) = true := decide_eq_true c2
    clear c2
    by_cases c3 : 0 ≤ x4_1
    ·rw [if_pos c3] at H
     have c3b0 : decide (0 ≤ x4_1) = true := decide_eq_true c3
     clear c3
     have H' := Ax.mk H
     clear H
     have p4 : 0 ≤ (x4_1 : Int) := of_decide_eq_true (by first | (with_reducible assumption) | assumption)
     have q4 : x4_1 < (a0.size : Int) := of_decide_eq_true (by first | (with_reducible assumption) | assumption)
     have hx4 := bt_at a0 x4_1
     replace p4 := eq_true p4
     replace q4 := eq_true q4
     go_wp2
     go_loopg [3, 5, 6] k1 (fun kq v3 v5 v6 w' => ∃ (x3_2 : Int) (x5_2 : Int) (x6_2 : Int), v3 = .int .u32 x3_2 ∧ v5 = .int .u32 x5_2 ∧ v6 = .int .i64 x6_2 ∧ Ax (r3_Sum.l1 kq a0 x3_2 x4_1 x5_2 x6_2 = some r) ∧ Ax (kq ≤ k1) ∧ Drawn0 w w')
     case atStart => exact ⟨(x3_1), ((bt a0 x4_1) % 4294967296), (0), (by first | rfl | (simp; done) | (simp [*]; done)), (by first | rfl | (simp; done) | (simp [*]; done)), (by first | rfl | (simp; done) | (simp [*]; done)), H', ⟨Nat.le_refl _⟩, by repeat (first | exact Drawn0.refl _ | apply Drawn0.step)⟩
     case round =>
      clear H'
      try clear c2
      try clear c2b0
      try clear p2
      try clear c3
      try clear c3b0
      try clear p4
      try clear q4
      try clear hx4
      try clear p4
      try clear q4
      obtain ⟨x3_2, x5_2, x6_2, rfl, rfl, rfl, HA, HK2, ⟨m2, rfl⟩⟩ := hrel
      cases gk with
      | zero => exact absurd HA.out (by simp [r3_Sum.l1])
      | succ k2 =>
       have H := HA.out
       clear HA
       simp only [r3_Sum.l1] at H
       by_cases c5 : x6_2 < 8
       ·rw [if_pos c5] at H
        have c5b0 : decide (x6_2 < 8) = true := decide_eq_true c5
        clear c5
        by_cases c6 : (Go.bits .and .u32 (Go.bits .xor .u32 x3_2 x5_2) 1) = 1
        ·rw [if_pos c6] at H
         have c6b0 : ((Go.bits .and .u32 (Go.bits .xor .u32 x3_2 x5_2) 1) == 1) = true := beq_iff_eq.mpr c6
         have c6b1 : ((Go.bits .and .u32 (Go.bits .xor .u32 x3_2 x5_2) 1) != 1) = false := bne_eq_false_iff_eq.mpr c6
         clear c6
         have H' := Ax.mk H
         clear H
         go_wp2
         go_roundg k2
         case measure => have := HK1.out; have := HK2.out; omega
         case rel => exact ⟨(Go.bits .xor .u32 ((Int.tdiv x3_2 2) % 4294967296) 3988292384), ((Int.tdiv x5_2 2) % 4294967296), (wrap64 (x6_2 + 1)), (by first | rfl | (simp; done) | (simp [*]; done)), (by first | rfl | (simp; done) | (simp [*]; done)), (by first | rfl | (simp; done) | (simp [*]; done)), H', ⟨by have := HK1.out; have := HK2.out; omega⟩, by repeat (first | exact Drawn0.refl _ | apply Drawn0.step)⟩
        ·rw [if_neg c6] at H
         have c6b0 : ((Go.bits .and .u32 (Go.bits .xor .u32 x3_2 x5_2) 1) == 1) = false := beq_eq_false_iff_ne.mpr c6
         have c6b1 : ((Go.bits .and .u32 (Go.bits .xor .u32 x3_2 x5_2) 1) != 1) = true := bne_iff_ne.mpr c6
         have H' := Ax.mk H
         clear H
         go_wp2
         go_roundg k2
         case measure => have := HK1.out; have := HK2.out; omega
         case rel => exact ⟨((Int.tdiv x3_2 2) % 4294967296), ((Int.tdiv x5_2 2) % 4294967296), (wrap64 (x6_2 + 1)), (by first | rfl | (simp; done) | (simp [*]; done)), (by first | rfl | (simp; done) | (simp [*]; done)), (by first | rfl | (simp; done) | (simp [*]; done)), H', ⟨by have := HK1.out; have := HK2.out; omega⟩, by repeat (first | exact Drawn0.refl _ | apply Drawn0.step)⟩
       ·rw [if_neg c5] at H
        have c5b0 : decide (x6_2 < 8) = false := decide_eq_false c5
        clear c5
        have H' := Ax.mk H
        clear H
        go_wp2
        go_roundg k2
        case measure => have := HK1.out; have := HK2.out; omega
        case rel => exact ⟨(x3_2), (wrap64 (x4_1 + 1)), (by first | rfl | (simp; done) | (simp [*]; done)), (by first | rfl | (simp; done) | (simp [*]; done)), H', ⟨by have := HK1.out; have := HK2.out; omega⟩, by repeat (first | exact Drawn0.refl _ | apply Drawn0.step)⟩
    ·rw [if_neg c3] at H
     exact absurd H (by simp)
   ·rw [if_neg c2] at H
    have c2b0 : decide (x4_1 < (a0.size : Int)) = false := decide_eq_false c2
    clear c2
    obtain rfl := Option.some.inj H
    go_wp2
    go_ret
    exact ⟨by first | rfl | (simp; done) | (simp [*]; done), by repeat (first | exact Drawn0.refl _ | apply Drawn0.step)⟩
def r3_Put.f (k : Nat) (a0 : ByteArray) : Option (ByteArray) := (r3_Sum.f k a0).bind fun t209 => ((r2_Put.f k (IntKind.u64.wrap (t209)) 4).bind fun t210 => (if a0.size + t210.size ≤ 9223372036854775807 then (some (a0 ++ t210)) else (none)))
theorem r3_Put.mono : ∀ a0 k, LeO (r3_Put.f k a0) (r3_Put.f (k + 1) a0) := by
 intro a0 k
 unfold r3_Put.f
 repeat' first
   | (with_reducible exact r2_Put.mono _ _ _)
   | (with_reducible exact r3_Sum.mono _ _)
   | (with_reducible exact LeO.refl _)
   | (with_reducible exact LeO.none _)
   | (with_reducible refine LeO.ite ?_ ?_)
   | (with_reducible refine LeO.bind ?_ (fun _ => ?_))
   | exact r2_Put.mono _ _ _
   | exact r3_Sum.mono _ _
   | exact LeO.none _
   | refine LeO.ite ?_ ?_
   | refine LeO.bind ?_ (fun _ => ?_)
set_option maxHeartbeats 8000000 in
set_option maxRecDepth 100000 in
theorem r3_Put.calls (k : Nat) (a0 : ByteArray) (r : ByteArray) (w : World) (h : r3_Put.f k a0 = some r) :
  Calls Tryd.prog 15 #[.string a0] w fun e w' => e = .returned (.string r) ∧ Below w.heap.size w w' := by
 have HB := Ax.mk (Below.refl w.heap.size w)
 have H : ((r3_Sum.f k a0).bind fun t209 => ((r2_Put.f k (IntKind.u64.wrap (t209)) 4).bind fun t210 => (if a0.size + t210.size ≤ 9223372036854775807 then (some (a0 ++ t210)) else (none)))) = some r := h
 clear h
 replace H := Option.bind_eq_some_iff.mp H
 obtain ⟨t209, A20, H⟩ := H
 replace H : ((r2_Put.f k (IntKind.u64.wrap (t209)) 4).bind fun t210 => (if a0.size + t210.size ≤ 9223372036854775807 then (some (a0 ++ t210)) else (none))) = some r := H
 have A2 := Ax.mk A20
 clear A20
 replace H := Option.bind_eq_some_iff.mp H
 obtain ⟨t210, A30, H⟩ := H
 replace H : (if a0.size + t210.size ≤ 9223372036854775807 then (some (a0 ++ t210)) else (none)) = some r := H
 have A3 := Ax.mk A30
 clear A30
 by_cases c4 : a0.size + t210.size ≤ 9223372036854775807
 ·rw [if_pos c4] at H
  have c4b0 := eq_true c4
  have c4b1 : decide (a0.size + t210.size ≤ 9223372036854775807) = true := decide_eq_true c4
  try have c4b2 : (9223372036854775807 < a0.size + t210.size) = False := eq_false (Nat.not_lt.2 c4)
  obtain rfl := Option.some.inj H
  go_enter Tryd.func15, Tryd.ntmps15
  go_wp2_with (first | ((with_reducible refine gate_callee (f := 36) rfl ?_); refine goesL_ (some 5) rfl rfl Tryd.func36 (by kernel_rfl) rfl #[.string a0] rfl (by (try simp only [List.map_toArray, List.map_cons, List.map_nil]); first | done | rfl | (simp only [List.length_drop, List.length_take]; rfl) | (rw [wrap_sum2 (by assumption)]; rfl)) ?_; (with_reducible refine (r3_Sum.calls k a0 t209 _ A2.out).mono ?_); rintro e w' ⟨rfl, ⟨nd, rfl⟩⟩; refine ⟨_, rfl, ?_⟩) | ((with_reducible refine gate_callee (f := 27) rfl ?_); refine goesL_ (some 7) rfl rfl Tryd.func27 (by kernel_rfl) rfl #[.int .u64 (IntKind.u64.wrap (t209)), .int .i64 4] rfl (by (try simp only [List.map_toArray, List.map_cons, List.map_nil]); first | done | rfl | (simp only [List.length_drop, List.length_take]; rfl) | (rw [wrap_sum2 (by assumption)]; rfl)) ?_; (with_reducible refine (r2_Put.calls k (IntKind.u64.wrap (t209)) 4 t210 _ A3.out).mono ?_); rintro e w5 ⟨rfl, hb⟩; refine ⟨_, rfl, ?_⟩; have n0_ := Ax.mk (bP bA hb); clear HB; have HB := n0_; clear n0_; (try clear hb); (try clear hb2); (try clear hk); (try clear hi)))
  go_ret
  exact ⟨by first | rfl | (simp [errW_none, errW_some] <;> rfl) | (simp [*, errW_none, errW_some] <;> rfl), bA⟩
 ·rw [if_neg c4] at H
  exact absurd H (by simp)
def span_inside.f (a0_0 : Int) (a0_1 : Int) (a1 : Int) : Option (Bool) := if a0_1 > 0 then (if a0_0 ≥ 0 then (if a0_0 < a1 then (some (decide (a0_1 ≤ (wrap64 (a1 - a0_0))))) else (some false)) else (some false)) else (some false)
set_option maxHeartbeats 8000000 in
set_option maxRecDepth 100000 in
theorem span_inside.calls (a0_0 : Int) (a0_1 : Int) (a1 : Int) (r : Bool) (w : World) (h : span_inside.f a0_0 a0_1 a1 = some r) :
  Calls Tryd.prog 50 #[.agg #[.int .i64 a0_0, .int .i64 a0_1], .int .i64 a1] w fun e w' => e = .returned (.bool r) ∧ Below w.heap.size w w' := by
 have hu53 := Tryd.underlying53
 have HB := Ax.mk (Below.refl w.heap.size w)
 have H : (if a0_1 > 0 then (if a0_0 ≥ 0 then (if a0_0 < a1 then (some (decide (a0_1 ≤ (wrap64 (a1 - a0_0))))) else (some false)) else (some false)) else (some false)) = some r := h
 clear h
 by_cases c3 : a0_1 > 0
 ·rw [if_pos c3] at H
  have c3b0 : decide (0 < a0_1) = true := decide_eq_true c3
  clear c3
  by_cases c4 : a0_0 ≥ 0
  ·rw [if_pos c4] at H
   have c4b0 : decide (0 ≤ a0_0) = true := decide_eq_true c4
   clear c4
   by_cases c5 : a0_0 < a1
   ·rw [if_pos c5] at H
    have c5b0 : decide (a0_0 < a1) = true := decide_eq_true c5
    clear c5
    obtain rfl := Option.some.inj H
    go_enter Tryd.func50, Tryd.ntmps50
    go_wp2_with (first | ((with_reducible refine gate_dst (N := 2) rfl ?_); refine box_event ?hg (N := 2) ?hd (cs := #[.int .i64 a0_0, .int .i64 a0_1]) (t := 53) ?hr ?_; (case hd => rfl); (case hg => rfl); (case hr => first | (go_simp; done) | (go_simp; rfl)); intro gb101 hg w6 hbox hb; have n0_ := Ax.mk (bP bA hb); have n1_ := Ax.mk (hbox); have n2_ := Ax.mk ((ge_new hg : w.heap.size ≤ gb101)); have n3_ := n2_; clear HB; have HB := n0_; have BK101 := n1_; have GW101 := n2_; have GE101 := n3_; clear n0_ n1_ n2_ n3_; clear hb hbox hg; have hcz7_0 : w6.cell? ⟨gb101, 0, none⟩ = some (.int .i64 a0_0) := (bC BK101.out 0).trans rfl; have hcz7_1 : w6.cell? ⟨gb101, 1, none⟩ = some (.int .i64 a0_1) := (bC BK101.out 1).trans rfl; have hfz7_0 := bF BK101.out 0; have hfz7_1 := bF BK101.out 1))
    go_ret
    exact ⟨by first | rfl | (simp [errW_none, errW_some] <;> rfl) | (simp [*, errW_none, errW_some] <;> rfl), bA⟩
   ·rw [if_neg c5] at H
    have c5b0 : decide (a0_0 < a1) = false := decide_eq_false c5
    clear c5
    obtain rfl := Option.some.inj H
    go_enter Tryd.func50, Tryd.ntmps50
    go_wp2_with (first | ((with_reducible refine gate_dst (N := 2) rfl ?_); refine box_event ?hg (N := 2) ?hd (cs := #[.int .i64 a0_0, .int .i64 a0_1]) (t := 53) ?hr ?_; (case hd => rfl); (case hg => rfl); (case hr => first | (go_simp; done) | (go_simp; rfl)); intro gb101 hg w8 hbox hb; have n0_ := Ax.mk (bP bA hb); have n1_ := Ax.mk (hbox); have n2_ := Ax.mk ((ge_new hg : w.heap.size ≤ gb101)); have n3_ := n2_; clear HB; have HB := n0_; have BK101 := n1_; have GW101 := n2_; have GE101 := n3_; clear n0_ n1_ n2_ n3_; clear hb hbox hg; have hcz9_0 : w8.cell? ⟨gb101, 0, none⟩ = some (.int .i64 a0_0) := (bC BK101.out 0).trans rfl; have hcz9_1 : w8.cell? ⟨gb101, 1, none⟩ = some (.int .i64 a0_1) := (bC BK101.out 1).trans rfl; have hfz9_0 := bF BK101.out 0; have hfz9_1 := bF BK101.out 1))
    go_ret
    exact ⟨by first | rfl | (simp [errW_none, errW_some] <;> rfl) | (simp [*, errW_none, errW_some] <;> rfl), bA⟩
  ·rw [if_neg c4] at H
   have c4b0 : decide (0 ≤ a0_0) = false := decide_eq_false c4
   clear c4
   obtain rfl := Option.some.inj H
   go_enter Tryd.func50, Tryd.ntmps50
   go_wp2_with (first | ((with_reducible refine gate_dst (N := 2) rfl ?_); refine box_event ?hg (N := 2) ?hd (cs := #[.int .i64 a0_0, .int .i64 a0_1]) (t := 53) ?hr ?_; (case hd => rfl); (case hg => rfl); (case hr => first | (go_simp; done) | (go_simp; rfl)); intro gb101 hg w10 hbox hb; have n0_ := Ax.mk (bP bA hb); have n1_ := Ax.mk (hbox); have n2_ := Ax.mk ((ge_new hg : w.heap.size ≤ gb101)); have n3_ := n2_; clear HB; have HB := n0_; have BK101 := n1_; have GW101 := n2_; have GE101 := n3_; clear n0_ n1_ n2_ n3_; clear hb hbox hg; have hcz11_0 : w10.cell? ⟨gb101, 0, none⟩ = some (.int .i64 a0_0) := (bC BK101.out 0).trans rfl; have hcz11_1 : w10.cell? ⟨gb101, 1, none⟩ = some (.int .i64 a0_1) := (bC BK101.out 1).trans rfl; have hfz11_0 := bF BK101.out 0; have hfz11_1 := bF BK101.out 1))
   go_ret
   exact ⟨by first | rfl | (simp [errW_none, errW_some] <;> rfl) | (simp [*, errW_none, errW_some] <;> rfl), bA⟩
 ·rw [if_neg c3] at H
  have c3b0 : decide (0 < a0_1) = false := decide_eq_false c3
  clear c3
  obtain rfl := Option.some.inj H
  go_enter Tryd.func50, Tryd.ntmps50
  go_wp2_with (first | ((with_reducible refine gate_dst (N := 2) rfl ?_); refine box_event ?hg (N := 2) ?hd (cs := #[.int .i64 a0_0, .int .i64 a0_1]) (t := 53) ?hr ?_; (case hd => rfl); (case hg => rfl); (case hr => first | (go_simp; done) | (go_simp; rfl)); intro gb101 hg w12 hbox hb; have n0_ := Ax.mk (bP bA hb); have n1_ := Ax.mk (hbox); have n2_ := Ax.mk ((ge_new hg : w.heap.size ≤ gb101)); have n3_ := n2_; clear HB; have HB := n0_; have BK101 := n1_; have GW101 := n2_; have GE101 := n3_; clear n0_ n1_ n2_ n3_; clear hb hbox hg; have hcz13_0 : w12.cell? ⟨gb101, 0, none⟩ = some (.int .i64 a0_0) := (bC BK101.out 0).trans rfl; have hcz13_1 : w12.cell? ⟨gb101, 1, none⟩ = some (.int .i64 a0_1) := (bC BK101.out 1).trans rfl; have hfz13_0 := bF BK101.out 0; have hfz13_1 := bF BK101.out 1))
  go_ret
  exact ⟨by first | rfl | (simp [errW_none, errW_some] <;> rfl) | (simp [*, errW_none, errW_some] <;> rfl), bA⟩
def span_sized.f (a0 : Int) : Option (Bool) := if a0 ≥ 1 then (some (decide (a0 ≤ 8192))) else (some false)
set_option maxHeartbeats 8000000 in
set_option maxRecDepth 100000 in
theorem span_sized.calls (a0 : Int) (r : Bool) (w : World) (h : span_sized.f a0 = some r) :
  Calls Tryd.prog 51 #[.int .i64 a0] w fun e w' => e = .returned (.bool r) ∧ Drawn0 w w' := by
 have H : (if a0 ≥ 1 then (some (decide (a0 ≤ 8192))) else (some false)) = some r := h
 clear h
 by_cases c2 : a0 ≥ 1
 ·rw [if_pos c2] at H
  have c2b0 : decide (1 ≤ a0) = true := decide_eq_true c2
  clear c2
  obtain rfl := Option.some.inj H
  go_enter Tryd.func51, Tryd.ntmps51
  go_wp2
  go_ret
  exact ⟨by first | rfl | (simp; done) | (simp [*]; done), by repeat (first | exact Drawn0.refl _ | apply Drawn0.step)⟩
 ·rw [if_neg c2] at H
  have c2b0 : decide (1 ≤ a0) = false := decide_eq_false c2
  clear c2
  obtain rfl := Option.some.inj H
  go_enter Tryd.func51, Tryd.ntmps51
  go_wp2
  go_ret
  exact ⟨by first | rfl | (simp; done) | (simp [*]; done), by repeat (first | exact Drawn0.refl _ | apply Drawn0.step)⟩
def span_Right.l0 : Nat → Int → Int → List (S53) → Int → Int → Option (Bool)
 | 0, _, _, _, _, _ => none
 | k + 1, x1, x5, x8, x9, x10 => if x10 < x9 then (if 0 ≤ x10 then (if x10 < (x8.length : Int) then ((span_inside.f ((rd_T53 x8 x10).f0) ((rd_T53 x8 x10).f1) x1).bind fun t104 => (if t104 = true then (if ((rd_T53 x8 x10).f0) ≤ x5 then (some false) else (span_Right.l0 k x1 (wrap64 (((rd_T53 x8 x10).f0) + ((rd_T53 x8 x10).f1))) x8 x9 (wrap64 (x10 + 1)))) else (some false))) else (none)) else (none)) else ((span_sized.f x1).bind fun t105 => (some t105))
def span_Right.f (k : Nat) (l0 : List (S53)) (a1 : Int) : Option (Bool) := span_Right.l0 k a1 (-1) l0 (l0.length : Int) 0
theorem span_Right.mono_l : ∀ k, (∀ y0 y1 y2 y3 y4, LeO (span_Right.l0 k y0 y1 y2 y3 y4) (span_Right.l0 (k + 1) y0 y1 y2 y3 y4))
 | 0 => fun _ _ _ _ _ r h => by simp [span_Right.l0] at h
 | k + 1 => by
  have ih0 := span_Right.mono_l k
  ·intro y0 y1 y2 y3 y4
   unfold span_Right.l0
   repeat' first
   | (with_reducible exact ih0 _ _ _ _ _)
   | (with_reducible exact LeO.refl _)
   | (with_reducible exact LeO.none _)
   | (with_reducible refine LeO.ite ?_ ?_)
   | (with_reducible refine LeO.bind ?_ (fun _ => ?_))
   | exact ih0 _ _ _ _ _
   | exact LeO.none _
   | refine LeO.ite ?_ ?_
   | refine LeO.bind ?_ (fun _ => ?_)
theorem span_Right.mono : ∀ a0 a1 k, LeO (span_Right.f k a0 a1) (span_Right.f (k + 1) a0 a1) := by
 intro a0 a1 k
 have ih0 := span_Right.mono_l k
 unfold span_Right.f
 repeat' first
   | (with_reducible exact ih0 _ _ _ _ _)
   | (with_reducible exact LeO.refl _)
   | (with_reducible exact LeO.none _)
   | (with_reducible refine LeO.ite ?_ ?_)
   | (with_reducible refine LeO.bind ?_ (fun _ => ?_))
   | exact ih0 _ _ _ _ _
   | exact LeO.none _
   | refine LeO.ite ?_ ?_
   | refine LeO.bind ?_ (fun _ => ?_)
set_option maxHeartbeats 8000000 in
set_option maxRecDepth 100000 in
theorem span_Right.calls (k : Nat) (A0 : Option Addr) (c0 : Nat) (l0 : List (S53)) (a1 : Int) (r : Bool) (w : World) (hr0 : Kd.C k53 w A0 l0.length l0) (hc0 : l0.length ≤ c0) (h : span_Right.f k l0 a1 = some r) :
  Calls Tryd.prog 29 #[.slice A0 l0.length c0, .int .i64 a1] w fun e w' => e = .returned (.bool r) ∧ Below w.heap.size w w' := by
 have hu53 := Tryd.underlying53
 have HR0 := Ax.mk hr0
 have HC0 := Ax.mk hc0
 clear hr0 hc0
 have HB := Ax.mk (Below.refl w.heap.size w)
 have H : (span_Right.l0 k a1 (-1) l0 (l0.length : Int) 0) = some r := h
 clear h
 have H' := Ax.mk H
 clear H
 go_enter Tryd.func29, Tryd.ntmps29
 go_wp2
 go_loopg [5, 10] k (fun kq v5 v10 w' => ∃ (x5_1 : Int) (x10_1 : Int), v5 = .int .i64 x5_1 ∧ v10 = .int .i64 x10_1 ∧ Ax (span_Right.l0 kq a1 x5_1 l0 (l0.length : Int) x10_1 = some r) ∧ Ax (kq ≤ k) ∧ Ax (Below w.heap.size w w'))
 case atStart => exact ⟨((-1)), (0), (by first | rfl | (simp; done) | (simp [*]; done)), (by first | rfl | (simp; done) | (simp [*]; done)), H', ⟨Nat.le_refl _⟩, ⟨bA⟩⟩
 case round =>
  clear H'
  try clear c2
  try clear p2
  obtain ⟨x5_1, x10_1, rfl, rfl, HA, HK1, HB⟩ := hrel
  cases gk with
  | zero => exact absurd HA.out (by simp [span_Right.l0])
  | succ k1 =>
   have H := HA.out
   clear HA
   simp only [span_Right.l0] at H
   by_cases c3 : x10_1 < (l0.length : Int)
   ·rw [if_pos c3] at H
    have c3b0 : decide (x10_1 < (l0.length : Int)) = true := decide_eq_true c3
    clear c3
    by_cases c4 : 0 ≤ x10_1
    ·rw [if_pos c4] at H
     have c4b0 : decide (0 ≤ x10_1) = true := decide_eq_true c4
     clear c4
     by_cases c5 : x10_1 < (l0.length : Int)
     ·rw [if_pos c5] at H
      have c5b0 : decide (x10_1 < (l0.length : Int)) = true := decide_eq_true c5
      clear c5
      replace H := Option.bind_eq_some_iff.mp H
      obtain ⟨t104, A60, H⟩ := H
      replace H : (if t104 = true then (if ((rd_T53 l0 x10_1).f0) ≤ x5_1 then (some false) else (span_Right.l0 k1 a1 (wrap64 (((rd_T53 l0 x10_1).f0) + ((rd_T53 l0 x10_1).f1))) l0 (l0.length : Int) (wrap64 (x10_1 + 1)))) else (some false)) = some r := H
      have A6 := Ax.mk A60
      clear A60
      by_cases c7 : t104 = true
      ·subst c7
       have H1 : (if ((rd_T53 l0 x10_1).f0) ≤ x5_1 then (some false) else (span_Right.l0 k1 a1 (wrap64 (((rd_T53 l0 x10_1).f0) + ((rd_T53 l0 x10_1).f1))) l0 (l0.length : Int) (wrap64 (x10_1 + 1)))) = some r := by rw [if_pos rfl] at H; exact H
       clear H
       have H := H1
       clear H1
       by_cases c8 : ((rd_T53 l0 x10_1).f0) ≤ x5_1
       ·rw [if_pos c8] at H
        have c8b0 : decide (((rd_T53 l0 x10_1).f0) ≤ x5_1) = true := decide_eq_true c8
        clear c8
        obtain rfl := Option.some.inj H
        have p102 : 0 ≤ (x10_1 : Int) := of_decide_eq_true (by first | (with_reducible assumption) | assumption)
        have q102 : x10_1 < (l0.length : Int) := of_decide_eq_true (by first | (with_reducible assumption) | assumption)
        obtain ⟨ad102, e102, hx102_0, hx102_1⟩ := at_T53 HR0.out x10_1 p102 q102
        cases e102
        replace hx102_0 := (HB.out.cell (World.block_lt_of_cell? w _ hx102_0)).trans hx102_0
        replace hx102_1 := (HB.out.cell (World.block_lt_of_cell? w _ hx102_1)).trans hx102_1
        replace p102 := eq_true p102
        replace q102 := eq_true q102
        go_wp2_with (first | ((with_reducible refine gate_dst (N := 7) rfl ?_); refine box_event ?hg (N := 7) ?hd (cs := #[.int .i64 0, .int .i64 0]) (t := 53) ?hr ?_; (case hd => rfl); (case hg => rfl); (case hr => first | (go_simp; done) | (go_simp; rfl)); intro gb103 hg w9 hbox hb; have n0_ := Ax.mk (bP bA hb); have n1_ := Ax.mk (hbox); have n2_ := Ax.mk ((ge_new hg : w.heap.size ≤ gb103)); have n3_ := n2_; clear HB; have HB := n0_; have BK103 := n1_; have GW103 := n2_; have GE103 := n3_; clear n0_ n1_ n2_ n3_; clear hb hbox hg; have hcz10_0 : w9.cell? ⟨gb103, 0, none⟩ = some (.int .i64 0) := (bC BK103.out 0).trans rfl; have hcz10_1 : w9.cell? ⟨gb103, 1, none⟩ = some (.int .i64 0) := (bC BK103.out 1).trans rfl; have hfz10_0 := bF BK103.out 0; have hfz10_1 := bF BK103.out 1) | ((with_reducible refine gate_callee (f := 50) rfl ?_); refine goesL_ (some 16) rfl rfl Tryd.func50 (by kernel_rfl) rfl #[.agg #[.int .i64 ((rd_T53 l0 x10_1).f0), .int .i64 ((rd_T53 l0 x10_1).f1)], .int .i64 a1] rfl (by (try simp only [List.map_toArray, List.map_cons, List.map_nil]); first | done | rfl | (simp only [List.length_drop, List.length_take]; rfl) | (rw [wrap_sum2 (by assumption)]; rfl)) ?_; (with_reducible refine (span_inside.calls ((rd_T53 l0 x10_1).f0) ((rd_T53 l0 x10_1).f1) a1 true _ A6.out).mono ?_); rintro e w11 ⟨rfl, hb⟩; refine ⟨_, rfl, ?_⟩; have n0_ := Ax.mk (bB (g := gb103) (o := .cells #[.int .i64 ((rd_T53 l0 x10_1).f0), .int .i64 ((rd_T53 l0 x10_1).f1)] 53 (0, 0)) (by refine bT ?_; refine bU (cs := #[.int .i64 ((rd_T53 l0 x10_1).f0), .int .i64 0]) ?_ 1 _ rfl; refine bT ?_; refine bU (cs := #[.int .i64 0, .int .i64 0]) ?_ 0 _ rfl; exact bT BK103.out) hb); have n1_ := Ax.mk (bP bA hb); clear BK103; clear HB; have BK103 := n0_; have HB := n1_; clear n0_ n1_; (try clear hb); (try clear hb2); (try clear hk); (try clear hi); have hcz12_0 : w11.cell? ⟨gb103, 0, none⟩ = some (.int .i64 ((rd_T53 l0 x10_1).f0)) := (bC BK103.out 0).trans rfl; have hcz12_1 : w11.cell? ⟨gb103, 1, none⟩ = some (.int .i64 ((rd_T53 l0 x10_1).f1)) := (bC BK103.out 1).trans rfl; have hfz12_0 := bF BK103.out 0; have hfz12_1 := bF BK103.out 1))
        go_ret
        exact ⟨by first | rfl | (simp [errW_none, errW_some] <;> rfl) | (simp [*, errW_none, errW_some] <;> rfl), bA⟩
       ·rw [if_neg c8] at H
        have c8b0 : decide (((rd_T53 l0 x10_1).f0) ≤ x5_1) = false := decide_eq_false c8
        clear c8
        have H' := Ax.mk H
        clear H
        have p102 : 0 ≤ (x10_1 : Int) := of_decide_eq_true (by first | (with_reducible assumption) | assumption)
        have q102 : x10_1 < (l0.length : Int) := of_decide_eq_true (by first | (with_reducible assumption) | assumption)
        obtain ⟨ad102, e102, hx102_0, hx102_1⟩ := at_T53 HR0.out x10_1 p102 q102
        cases e102
        replace hx102_0 := (HB.out.cell (World.block_lt_of_cell? w _ hx102_0)).trans hx102_0
        replace hx102_1 := (HB.out.cell (World.block_lt_of_cell? w _ hx102_1)).trans hx102_1
        replace p102 := eq_true p102
        replace q102 := eq_true q102
        go_wp2_with (first | ((with_reducible refine gate_dst (N := 7) rfl ?_); refine box_event ?hg (N := 7) ?hd (cs := #[.int .i64 0, .int .i64 0]) (t := 53) ?hr ?_; (case hd => rfl); (case hg => rfl); (case hr => first | (go_simp; done) | (go_simp; rfl)); intro gb103 hg w13 hbox hb; have n0_ := Ax.mk (bP bA hb); have n1_ := Ax.mk (hbox); have n2_ := Ax.mk ((ge_new hg : w.heap.size ≤ gb103)); have n3_ := n2_; clear HB; have HB := n0_; have BK103 := n1_; have GW103 := n2_; have GE103 := n3_; clear n0_ n1_ n2_ n3_; clear hb hbox hg; have hcz14_0 : w13.cell? ⟨gb103, 0, none⟩ = some (.int .i64 0) := (bC BK103.out 0).trans rfl; have hcz14_1 : w13.cell? ⟨gb103, 1, none⟩ = some (.int .i64 0) := (bC BK103.out 1).trans rfl; have hfz14_0 := bF BK103.out 0; have hfz14_1 := bF BK103.out 1) | ((with_reducible refine gate_callee (f := 50) rfl ?_); refine goesL_ (some 16) rfl rfl Tryd.func50 (by kernel_rfl) rfl #[.agg #[.int .i64 ((rd_T53 l0 x10_1).f0), .int .i64 ((rd_T53 l0 x10_1).f1)], .int .i64 a1] rfl (by (try simp only [List.map_toArray, List.map_cons, List.map_nil]); first | done | rfl | (simp only [List.length_drop, List.length_take]; rfl) | (rw [wrap_sum2 (by assumption)]; rfl)) ?_; (with_reducible refine (span_inside.calls ((rd_T53 l0 x10_1).f0) ((rd_T53 l0 x10_1).f1) a1 true _ A6.out).mono ?_); rintro e w15 ⟨rfl, hb⟩; refine ⟨_, rfl, ?_⟩; have n0_ := Ax.mk (bB (g := gb103) (o := .cells #[.int .i64 ((rd_T53 l0 x10_1).f0), .int .i64 ((rd_T53 l0 x10_1).f1)] 53 (0, 0)) (by refine bT ?_; refine bU (cs := #[.int .i64 ((rd_T53 l0 x10_1).f0), .int .i64 0]) ?_ 1 _ rfl; refine bT ?_; refine bU (cs := #[.int .i64 0, .int .i64 0]) ?_ 0 _ rfl; exact bT BK103.out) hb); have n1_ := Ax.mk (bP bA hb); clear BK103; clear HB; have BK103 := n0_; have HB := n1_; clear n0_ n1_; (try clear hb); (try clear hb2); (try clear hk); (try clear hi); have hcz16_0 : w15.cell? ⟨gb103, 0, none⟩ = some (.int .i64 ((rd_T53 l0 x10_1).f0)) := (bC BK103.out 0).trans rfl; have hcz16_1 : w15.cell? ⟨gb103, 1, none⟩ = some (.int .i64 ((rd_T53 l0 x10_1).f1)) := (bC BK103.out 1).trans rfl; have hfz16_0 := bF BK103.out 0; have hfz16_1 := bF BK103.out 1))
        go_roundg k1
        case measure => have := HK1.out; omega
        case rel => exact ⟨(wrap64 (((rd_T53 l0 x10_1).f0) + ((rd_T53 l0 x10_1).f1))), (wrap64 (x10_1 + 1)), (by first | rfl | (simp; done) | (simp [*]; done)), (by first | rfl | (simp; done) | (simp [*]; done)), H', ⟨by have := HK1.out; omega⟩, ⟨bA⟩⟩
      ·replace c7 := Bool.eq_false_iff.mpr c7
       subst c7
       have H1 : (some false) = some r := by rw [if_neg (show ¬ (false = true) by decide)] at H; exact H
       clear H
       have H := H1
       clear H1
       obtain rfl := Option.some.inj H
       have p102 : 0 ≤ (x10_1 : Int) := of_decide_eq_true (by first | (with_reducible assumption) | assumption)
       have q102 : x10_1 < (l0.length : Int) := of_decide_eq_true (by first | (with_reducible assumption) | assumption)
       obtain ⟨ad102, e102, hx102_0, hx102_1⟩ := at_T53 HR0.out x10_1 p102 q102
       cases e102
       replace hx102_0 := (HB.out.cell (World.block_lt_of_cell? w _ hx102_0)).trans hx102_0
       replace hx102_1 := (HB.out.cell (World.block_lt_of_cell? w _ hx102_1)).trans hx102_1
       replace p102 := eq_true p102
       replace q102 := eq_true q102
       go_wp2_with (first | ((with_reducible refine gate_dst (N := 7) rfl ?_); refine box_event ?hg (N := 7) ?hd (cs := #[.int .i64 0, .int .i64 0]) (t := 53) ?hr ?_; (case hd => rfl); (case hg => rfl); (case hr => first | (go_simp; done) | (go_simp; rfl)); intro gb103 hg w17 hbox hb; have n0_ := Ax.mk (bP bA hb); have n1_ := Ax.mk (hbox); have n2_ := Ax.mk ((ge_new hg : w.heap.size ≤ gb103)); have n3_ := n2_; clear HB; have HB := n0_; have BK103 := n1_; have GW103 := n2_; have GE103 := n3_; clear n0_ n1_ n2_ n3_; clear hb hbox hg; have hcz18_0 : w17.cell? ⟨gb103, 0, none⟩ = some (.int .i64 0) := (bC BK103.out 0).trans rfl; have hcz18_1 : w17.cell? ⟨gb103, 1, none⟩ = some (.int .i64 0) := (bC BK103.out 1).trans rfl; have hfz18_0 := bF BK103.out 0; have hfz18_1 := bF BK103.out 1) | ((with_reducible refine gate_callee (f := 50) rfl ?_); refine goesL_ (some 16) rfl rfl Tryd.func50 (by kernel_rfl) rfl #[.agg #[.int .i64 ((rd_T53 l0 x10_1).f0), .int .i64 ((rd_T53 l0 x10_1).f1)], .int .i64 a1] rfl (by (try simp only [List.map_toArray, List.map_cons, List.map_nil]); first | done | rfl | (simp only [List.length_drop, List.length_take]; rfl) | (rw [wrap_sum2 (by assumption)]; rfl)) ?_; (with_reducible refine (span_inside.calls ((rd_T53 l0 x10_1).f0) ((rd_T53 l0 x10_1).f1) a1 false _ A6.out).mono ?_); rintro e w19 ⟨rfl, hb⟩; refine ⟨_, rfl, ?_⟩; have n0_ := Ax.mk (bB (g := gb103) (o := .cells #[.int .i64 ((rd_T53 l0 x10_1).f0), .int .i64 ((rd_T53 l0 x10_1).f1)] 53 (0, 0)) (by refine bT ?_; refine bU (cs := #[.int .i64 ((rd_T53 l0 x10_1).f0), .int .i64 0]) ?_ 1 _ rfl; refine bT ?_; refine bU (cs := #[.int .i64 0, .int .i64 0]) ?_ 0 _ rfl; exact bT BK103.out) hb); have n1_ := Ax.mk (bP bA hb); clear BK103; clear HB; have BK103 := n0_; have HB := n1_; clear n0_ n1_; (try clear hb); (try clear hb2); (try clear hk); (try clear hi)))
       go_ret
       exact ⟨by first | rfl | (simp [errW_none, errW_some] <;> rfl) | (simp [*, errW_none, errW_some] <;> rfl), bA⟩
     ·rw [if_neg c5] at H
      exact absurd H (by simp)
    ·rw [if_neg c4] at H
     exact absurd H (by simp)
   ·rw [if_neg c3] at H
    have c3b0 : decide (x10_1 < (l0.length : Int)) = false := decide_eq_false c3
    clear c3
    replace H := Option.bind_eq_some_iff.mp H
    obtain ⟨t105, A200, H⟩ := H
    replace H : (some t105) = some r := H
    have A20 := Ax.mk A200
    clear A200
    obtain rfl := Option.some.inj H
    go_wp2_with (first | ((with_reducible refine gate_callee (f := 51) rfl ?_); refine goesL_ (some 31) rfl rfl Tryd.func51 (by kernel_rfl) rfl #[.int .i64 a1] rfl (by (try simp only [List.map_toArray, List.map_cons, List.map_nil]); first | done | rfl | (simp only [List.length_drop, List.length_take]; rfl) | (rw [wrap_sum2 (by assumption)]; rfl)) ?_; (with_reducible refine (span_sized.calls a1 t105 _ A20.out).mono ?_); rintro e w' ⟨rfl, ⟨nd, rfl⟩⟩; refine ⟨_, rfl, ?_⟩))
    go_ret
    exact ⟨by first | rfl | (simp [errW_none, errW_some] <;> rfl) | (simp [*, errW_none, errW_some] <;> rfl), bA⟩
def span_Total.l0 : Nat → Int → List (S53) → Int → Int → Option (Int)
 | 0, _, _, _, _ => none
 | k + 1, x3, x6, x7, x8 => if x8 < x7 then (if 0 ≤ x8 then (if x8 < (x6.length : Int) then (span_Total.l0 k (wrap64 (x3 + (mx ((rd_T53 x6 x8).f1) 0))) x6 x7 (wrap64 (x8 + 1))) else (none)) else (none)) else (some x3)
def span_Total.f (k : Nat) (l0 : List (S53)) : Option (Int) := span_Total.l0 k 0 l0 (l0.length : Int) 0
theorem span_Total.mono_l : ∀ k, (∀ y0 y1 y2 y3, LeO (span_Total.l0 k y0 y1 y2 y3) (span_Total.l0 (k + 1) y0 y1 y2 y3))
 | 0 => fun _ _ _ _ r h => by simp [span_Total.l0] at h
 | k + 1 => by
  have ih0 := span_Total.mono_l k
  ·intro y0 y1 y2 y3
   unfold span_Total.l0
   repeat' first
   | (with_reducible exact ih0 _ _ _ _)
   | (with_reducible exact LeO.refl _)
   | (with_reducible exact LeO.none _)
   | (with_reducible refine LeO.ite ?_ ?_)
   | (with_reducible refine LeO.bind ?_ (fun _ => ?_))
   | exact ih0 _ _ _ _
   | exact LeO.none _
   | refine LeO.ite ?_ ?_
   | refine LeO.bind ?_ (fun _ => ?_)
theorem span_Total.mono : ∀ a0 k, LeO (span_Total.f k a0) (span_Total.f (k + 1) a0) := by
 intro a0 k
 have ih0 := span_Total.mono_l k
 unfold span_Total.f
 repeat' first
   | (with_reducible exact ih0 _ _ _ _)
   | (with_reducible exact LeO.refl _)
   | (with_reducible exact LeO.none _)
   | (with_reducible refine LeO.ite ?_ ?_)
   | (with_reducible refine LeO.bind ?_ (fun _ => ?_))
   | exact ih0 _ _ _ _
   | exact LeO.none _
   | refine LeO.ite ?_ ?_
   | refine LeO.bind ?_ (fun _ => ?_)
set_option maxHeartbeats 8000000 in
set_option maxRecDepth 100000 in
theorem span_Total.calls (k : Nat) (A0 : Option Addr) (c0 : Nat) (l0 : List (S53)) (r : Int) (w : World) (hr0 : Kd.C k53 w A0 l0.length l0) (hc0 : l0.length ≤ c0) (h : span_Total.f k l0 = some r) :
  Calls Tryd.prog 31 #[.slice A0 l0.length c0] w fun e w' => e = .returned (.int .i64 r) ∧ Below w.heap.size w w' := by
 have hu53 := Tryd.underlying53
 have HR0 := Ax.mk hr0
 have HC0 := Ax.mk hc0
 clear hr0 hc0
 have HB := Ax.mk (Below.refl w.heap.size w)
 have H : (span_Total.l0 k 0 l0 (l0.length : Int) 0) = some r := h
 clear h
 have H' := Ax.mk H
 clear H
 go_enter Tryd.func31, Tryd.ntmps31
 go_wp2
 go_loopg [3, 8] k (fun kq v3 v8 w' => ∃ (x3_1 : Int) (x8_1 : Int), v3 = .int .i64 x3_1 ∧ v8 = .int .i64 x8_1 ∧ Ax (span_Total.l0 kq x3_1 l0 (l0.length : Int) x8_1 = some r) ∧ Ax (kq ≤ k) ∧ Ax (Below w.heap.size w w'))
 case atStart => exact ⟨(0), (0), (by first | rfl | (simp; done) | (simp [*]; done)), (by first | rfl | (simp; done) | (simp [*]; done)), H', ⟨Nat.le_refl _⟩, ⟨bA⟩⟩
 case round =>
  clear H'
  obtain ⟨x3_1, x8_1, rfl, rfl, HA, HK1, HB⟩ := hrel
  cases gk with
  | zero => exact absurd HA.out (by simp [span_Total.l0])
  | succ k1 =>
   have H := HA.out
   clear HA
   simp only [span_Total.l0] at H
   by_cases c2 : x8_1 < (l0.length : Int)
   ·rw [if_pos c2] at H
    have c2b0 : decide (x8_1 < (l0.length : Int)) = true := decide_eq_true c2
    clear c2
    by_cases c3 : 0 ≤ x8_1
    ·rw [if_pos c3] at H
     have c3b0 : decide (0 ≤ x8_1) = true := decide_eq_true c3
     clear c3
     by_cases c4 : x8_1 < (l0.length : Int)
     ·rw [if_pos c4] at H
      have c4b0 : decide (x8_1 < (l0.length : Int)) = true := decide_eq_true c4
      clear c4
      obtain ⟨ji5, hji5⟩ : ∃ j_ : Int, (mx ((rd_T53 l0 x8_1).f1) 0) = j_ := ⟨_, rfl⟩
      replace H : (span_Total.l0 k1 (wrap64 (x3_1 + (ji5))) l0 (l0.length : Int) (wrap64 (x8_1 + 1))) = some r := by first | (rw [hji5] at H; exact H) | (simp only [hji5] at H ⊢; exact H)
      have hji5_ : (if ((rd_T53 l0 x8_1).f1) < 0 then 0 else ((rd_T53 l0 x8_1).f1)) = ji5 := hji5
      have H' := Ax.mk H
      clear H
      have p106 : 0 ≤ (x8_1 : Int) := of_decide_eq_true (by first | (with_reducible assumption) | assumption)
      have q106 : x8_1 < (l0.length : Int) := of_decide_eq_true (by first | (with_reducible assumption) | assumption)
      obtain ⟨ad106, e106, hx106_0, hx106_1⟩ := at_T53 HR0.out x8_1 p106 q106
      cases e106
      replace hx106_0 := (HB.out.cell (World.block_lt_of_cell? w _ hx106_0)).trans hx106_0
      replace hx106_1 := (HB.out.cell (World.block_lt_of_cell? w _ hx106_1)).trans hx106_1
      replace p106 := eq_true p106
      replace q106 := eq_true q106
      go_wp2_with (first | ((with_reducible refine gate_dst (N := 5) rfl ?_); refine box_event ?hg (N := 5) ?hd (cs := #[.int .i64 0, .int .i64 0]) (t := 53) ?hr ?_; (case hd => rfl); (case hg => rfl); (case hr => first | (go_simp; done) | (go_simp; rfl)); intro gb107 hg w6 hbox hb; have n0_ := Ax.mk (bP bA hb); have n1_ := Ax.mk (hbox); have n2_ := Ax.mk ((ge_new hg : w.heap.size ≤ gb107)); have n3_ := n2_; clear HB; have HB := n0_; have BK107 := n1_; have GW107 := n2_; have GE107 := n3_; clear n0_ n1_ n2_ n3_; clear hb hbox hg; have hcz7_0 : w6.cell? ⟨gb107, 0, none⟩ = some (.int .i64 0) := (bC BK107.out 0).trans rfl; have hcz7_1 : w6.cell? ⟨gb107, 1, none⟩ = some (.int .i64 0) := (bC BK107.out 1).trans rfl; have hfz7_0 := bF BK107.out 0; have hfz7_1 := bF BK107.out 1))
      go_roundg k1
      case measure => have := HK1.out; omega
      case rel => exact ⟨(wrap64 (x3_1 + (ji5))), (wrap64 (x8_1 + 1)), (by first | rfl | (simp; done) | (simp only [← hji5] <;> (first | rfl | simp)) | (simp [*]; done)), (by first | rfl | (simp; done) | (simp [*]; done)), H', ⟨by have := HK1.out; omega⟩, ⟨bA⟩⟩
     ·rw [if_neg c4] at H
      exact absurd H (by simp)
    ·rw [if_neg c3] at H
     exact absurd H (by simp)
   ·rw [if_neg c2] at H
    have c2b0 : decide (x8_1 < (l0.length : Int)) = false := decide_eq_false c2
    clear c2
    obtain rfl := Option.some.inj H
    go_wp2
    go_ret
    exact ⟨by first | rfl | (simp [errW_none, errW_some] <;> rfl) | (simp [*, errW_none, errW_some] <;> rfl), bA⟩
theorem eqA53 (d : Nat) (w : World) (x0 y0 : Int) (x1 y1 : Int) :
  (Op.equalIn (d + 2) 53 (.agg #[.int .i64 x0, .int .i64 x1]) (.agg #[.int .i64 y0, .int .i64 y1])).run Tryd.prog w = .ok (x0 == y0 && (x1 == y1)) w := by
 refine eqA_of Tryd.underlying53 (by kernel_rfl) ?_
 refine eqf_cons (by rfl) (by go_simp; rfl) (by go_simp; rfl) (by go_simp) ?_
 exact eqf_last (by rfl) (by go_simp; rfl) (by go_simp; rfl) (by go_simp)
def r5_inside.f (a0_0 : Int) (a0_1 : Int) (a1 : Int) : Option (Bool) := if a0_1 ≥ 1 then (if a0_0 ≥ 0 then (if a0_0 < a1 then (some (decide (a0_1 ≤ (wrap64 (a1 - a0_0))))) else (some false)) else (some false)) else (some false)
mutual
def r5_marks.j0 : Nat → List (S53) → Int → Bool → Option (List Bool × Int)
 | 0, _, _, _ => none
 | k + 1, x0, x1, x15 => if x15 = true then (some (([] : List Bool), 11)) else (r5_marks.l0 k x0 x1 0)
def r5_marks.l0 : Nat → List (S53) → Int → Int → Option (List Bool × Int)
 | 0, _, _, _ => none
 | k + 1, x0, x1, x6 => if x6 < (x0.length : Int) then (if 0 ≤ x6 then ((r5_inside.f ((rd_T53 x0 x6).f0) ((rd_T53 x0 x6).f1) x1).bind fun t164 => (if t164 = true then (r5_marks.l0 k x0 x1 (wrap64 (x6 + 1))) else (some (([] : List Bool), 11)))) else (none)) else (if 0 ≤ x1 then (if (x1 : Int).toNat ≤ 281474976710656 then (r5_marks.l1 k x0 (List.replicate (x1 : Int).toNat false) 0) else (none)) else (none))
def r5_marks.l1 : Nat → List (S53) → List Bool → Int → Option (List Bool × Int)
 | 0, _, _, _ => none
 | k + 1, x0, x7, x8 => if x8 < (x0.length : Int) then (if 0 ≤ x8 then (r5_marks.l2 k x0 x7 x8 ((rd_T53 x0 x8).f0)) else (none)) else (some (x7, 0))
def r5_marks.l2 : Nat → List (S53) → List Bool → Int → Int → Option (List Bool × Int)
 | 0, _, _, _, _ => none
 | k + 1, x0, x7, x8, x9 => if 0 ≤ x8 then (if x8 < (x0.length : Int) then (if x9 < (wrap64 (((rd_T53 x0 x8).f0) + ((rd_T53 x0 x8).f1))) then (if 0 ≤ x9 then (if x9 < (x7.length : Int) then (if rdOf false x7 x9 = true then (some (([] : List Bool), 5)) else (r5_marks.l2 k x0 (x7.set (x9 : Int).toNat true) x8 (wrap64 (x9 + 1)))) else (none)) else (none)) else (r5_marks.l1 k x0 x7 (wrap64 (x8 + 1)))) else (none)) else (none)
end
def r5_marks.f (k : Nat) (l0 : List (S53)) (a1 : Int) : Option (List Bool × Int) := if a1 < 1 then (r5_marks.j0 k l0 a1 true) else (r5_marks.j0 k l0 a1 (decide (a1 > 8192)))
theorem r5_marks.mono_l : ∀ k, (∀ y0 y1 y2, LeO (r5_marks.j0 k y0 y1 y2) (r5_marks.j0 (k + 1) y0 y1 y2)) ∧ (∀ y0 y1 y2, LeO (r5_marks.l0 k y0 y1 y2) (r5_marks.l0 (k + 1) y0 y1 y2)) ∧ (∀ y0 y1 y2, LeO (r5_marks.l1 k y0 y1 y2) (r5_marks.l1 (k + 1) y0 y1 y2)) ∧ (∀ y0 y1 y2 y3, LeO (r5_marks.l2 k y0 y1 y2 y3) (r5_marks.l2 (k + 1) y0 y1 y2 y3))
 | 0 => ⟨fun _ _ _ r h => by simp [r5_marks.j0] at h, fun _ _ _ r h => by simp [r5_marks.l0] at h, fun _ _ _ r h => by simp [r5_marks.l1] at h, fun _ _ _ _ r h => by simp [r5_marks.l2] at h⟩
 | k + 1 => by
  obtain ⟨ih0, ih1, ih2, ih3⟩ := r5_marks.mono_l k
  refine ⟨?_, ?_, ?_, ?_⟩
  ·intro y0 y1 y2
   unfold r5_marks.j0
   repeat' first
   | (with_reducible exact ih0 _ _ _)
   | (with_reducible exact ih1 _ _ _)
   | (with_reducible exact ih2 _ _ _)
   | (with_reducible exact ih3 _ _ _ _)
   | (with_reducible exact LeO.refl _)
   | (with_reducible exact LeO.none _)
   | (with_reducible refine LeO.ite ?_ ?_)
   | (with_reducible refine LeO.bind ?_ (fun _ => ?_))
   | exact ih0 _ _ _
   | exact ih1 _ _ _
   | exact ih2 _ _ _
   | exact ih3 _ _ _ _
   | exact LeO.none _
   | refine LeO.ite ?_ ?_
   | refine LeO.bind ?_ (fun _ => ?_)
  ·intro y0 y1 y2
   unfold r5_marks.l0
   repeat' first
   | (with_reducible exact ih0 _ _ _)
   | (with_reducible exact ih1 _ _ _)
   | (with_reducible exact ih2 _ _ _)
   | (with_reducible exact ih3 _ _ _ _)
   | (with_reducible exact LeO.refl _)
   | (with_reducible exact LeO.none _)
   | (with_reducible refine LeO.ite ?_ ?_)
   | (with_reducible refine LeO.bind ?_ (fun _ => ?_))
   | exact ih0 _ _ _
   | exact ih1 _ _ _
   | exact ih2 _ _ _
   | exact ih3 _ _ _ _
   | exact LeO.none _
   | refine LeO.ite ?_ ?_
   | refine LeO.bind ?_ (fun _ => ?_)
  ·intro y0 y1 y2
   unfold r5_marks.l1
   repeat' first
   | (with_reducible exact ih0 _ _ _)
   | (with_reducible exact ih1 _ _ _)
   | (with_reducible exact ih2 _ _ _)
   | (with_reducible exact ih3 _ _ _ _)
   | (with_reducible exact LeO.refl _)
   | (with_reducible exact LeO.none _)
   | (with_reducible refine LeO.ite ?_ ?_)
   | (with_reducible refine LeO.bind ?_ (fun _ => ?_))
   | exact ih0 _ _ _
   | exact ih1 _ _ _
   | exact ih2 _ _ _
   | exact ih3 _ _ _ _
   | exact LeO.none _
   | refine LeO.ite ?_ ?_
   | refine LeO.bind ?_ (fun _ => ?_)
  ·intro y0 y1 y2 y3
   unfold r5_marks.l2
   repeat' first
   | (with_reducible exact ih0 _ _ _)
   | (with_reducible exact ih1 _ _ _)
   | (with_reducible exact ih2 _ _ _)
   | (with_reducible exact ih3 _ _ _ _)
   | (with_reducible exact LeO.refl _)
   | (with_reducible exact LeO.none _)
   | (with_reducible refine LeO.ite ?_ ?_)
   | (with_reducible refine LeO.bind ?_ (fun _ => ?_))
   | exact ih0 _ _ _
   | exact ih1 _ _ _
   | exact ih2 _ _ _
   | exact ih3 _ _ _ _
   | exact LeO.none _
   | refine LeO.ite ?_ ?_
   | refine LeO.bind ?_ (fun _ => ?_)
theorem r5_marks.mono : ∀ a0 a1 k, LeO (r5_marks.f k a0 a1) (r5_marks.f (k + 1) a0 a1) := by
 intro a0 a1 k
 obtain ⟨ih0, ih1, ih2, ih3⟩ := r5_marks.mono_l k
 unfold r5_marks.f
 repeat' first
   | (with_reducible exact ih0 _ _ _)
   | (with_reducible exact ih1 _ _ _)
   | (with_reducible exact ih2 _ _ _)
   | (with_reducible exact ih3 _ _ _ _)
   | (with_reducible exact LeO.refl _)
   | (with_reducible exact LeO.none _)
   | (with_reducible refine LeO.ite ?_ ?_)
   | (with_reducible refine LeO.bind ?_ (fun _ => ?_))
   | exact ih0 _ _ _
   | exact ih1 _ _ _
   | exact ih2 _ _ _
   | exact ih3 _ _ _ _
   | exact LeO.none _
   | refine LeO.ite ?_ ?_
   | refine LeO.bind ?_ (fun _ => ?_)
def r5_row.l0 : Nat → List Bool → List (S53) → Int → Option ((List (S53)))
 | 0, _, _, _ => none
 | k + 1, x0, x3, x4 => if x4 < (x0.length : Int) then (if 0 ≤ x4 then (if rdOf false x0 x4 = true then (if x4 > 0 then (if 0 ≤ (wrap64 (x4 - 1)) then (if (wrap64 (x4 - 1)) < (x0.length : Int) then (if rdOf false x0 (wrap64 (x4 - 1)) = true then (if 0 ≤ (wrap64 ((x3.length : Int) - 1)) then (if (wrap64 ((x3.length : Int) - 1)) < (x3.length : Int) then (r5_row.l0 k x0 (x3.set ((wrap64 ((x3.length : Int) - 1)) : Int).toNat (⟨(rd_T53 x3 (wrap64 ((x3.length : Int) - 1))).f0, wrap64 (((rd_T53 x3 (wrap64 ((x3.length : Int) - 1))).f1) + 1)⟩ : S53)) (wrap64 (x4 + 1))) else (none)) else (none)) else (if x3.length < 8796093022208 then (r5_row.l0 k x0 (x3 ++ [(⟨x4, 1⟩ : S53)]) (wrap64 (x4 + 1))) else (none))) else (none)) else (none)) else (if x3.length < 8796093022208 then (r5_row.l0 k x0 (x3 ++ [(⟨x4, 1⟩ : S53)]) (wrap64 (x4 + 1))) else (none))) else (r5_row.l0 k x0 x3 (wrap64 (x4 + 1)))) else (none)) else (some x3)
def r5_row.f (k : Nat) (l0 : List Bool) : Option ((List (S53))) := r5_row.l0 k l0 ([] : List (S53)) 0
theorem r5_row.mono_l : ∀ k, (∀ y0 y1 y2, LeO (r5_row.l0 k y0 y1 y2) (r5_row.l0 (k + 1) y0 y1 y2))
 | 0 => fun _ _ _ r h => by simp [r5_row.l0] at h
 | k + 1 => by
  have ih0 := r5_row.mono_l k
  ·intro y0 y1 y2
   unfold r5_row.l0
   repeat' first
   | (with_reducible exact ih0 _ _ _)
   | (with_reducible exact LeO.refl _)
   | (with_reducible exact LeO.none _)
   | (with_reducible refine LeO.ite ?_ ?_)
   | (with_reducible refine LeO.bind ?_ (fun _ => ?_))
   | exact ih0 _ _ _
   | exact LeO.none _
   | refine LeO.ite ?_ ?_
   | refine LeO.bind ?_ (fun _ => ?_)
theorem r5_row.mono : ∀ a0 k, LeO (r5_row.f k a0) (r5_row.f (k + 1) a0) := by
 intro a0 k
 have ih0 := r5_row.mono_l k
 unfold r5_row.f
 repeat' first
   | (with_reducible exact ih0 _ _ _)
   | (with_reducible exact LeO.refl _)
   | (with_reducible exact LeO.none _)
   | (with_reducible refine LeO.ite ?_ ?_)
   | (with_reducible refine LeO.bind ?_ (fun _ => ?_))
   | exact ih0 _ _ _
   | exact LeO.none _
   | refine LeO.ite ?_ ?_
   | refine LeO.bind ?_ (fun _ => ?_)
def r5_Norm.f (k : Nat) (l0 : List (S53)) (a1 : Int) : Option ((List (S53)) × Int) := (r5_marks.f k l0 a1).bind fun bt183 => (if bt183.2 = 0 then ((r5_row.f k bt183.1).bind fun t187 => (some (t187, 0))) else (some (([] : List (S53)), bt183.2)))
theorem r5_Norm.mono : ∀ a0 a1 k, LeO (r5_Norm.f k a0 a1) (r5_Norm.f (k + 1) a0 a1) := by
 intro a0 a1 k
 unfold r5_Norm.f
 repeat' first
   | (with_reducible exact r5_marks.mono _ _ _)
   | (with_reducible exact r5_row.mono _ _)
   | (with_reducible exact LeO.refl _)
   | (with_reducible exact LeO.none _)
   | (with_reducible refine LeO.ite ?_ ?_)
   | (with_reducible refine LeO.bind ?_ (fun _ => ?_))
   | exact r5_marks.mono _ _ _
   | exact r5_row.mono _ _
   | exact LeO.none _
   | refine LeO.ite ?_ ?_
   | refine LeO.bind ?_ (fun _ => ?_)
end Go.Proofs.YtcgejogmiglalaaDoor.Fn
end
section
namespace Go.Proofs.YtcgejogmiglalaaDoor.Fn
open Go.RowKit Go.Proofs.YtcgejogmiglalaaDoorW.PrintWords Go.Proofs.YtcgejogmiglalaaDoorW.PrintLast Go.Proofs.YtcgejogmiglalaaDoorW.PrintMore Go.Proofs.YtcgejogmiglalaaDoor.Lf
attribute [local go_sem] max2_int min2_int max_two min_two max_three min_three max_four min_four   -- for this text's walks alone
set_option linter.unusedVariables false
set_option linter.unusedSimpArgs false
attribute [local go_sem high] eqA53
mutual
def r5_Right.j0 : Nat → List (S53) → List (S53) → Bool → Option (Bool)
 | 0, _, _, _ => none
 | k + 1, x0, x5, x22 => if x22 = true then (some false) else (r5_Right.l0 k x0 x5 0)
def r5_Right.l0 : Nat → List (S53) → List (S53) → Int → Option (Bool)
 | 0, _, _, _ => none
 | k + 1, x0, x5, x7 => if x7 < (x0.length : Int) then (if 0 ≤ x7 then (if x7 < (x5.length : Int) then (if (!(((rd_T53 x0 x7).f0) == ((rd_T53 x5 x7).f0)) || (!(((rd_T53 x0 x7).f1) == ((rd_T53 x5 x7).f1)))) = true then (some false) else (r5_Right.l0 k x0 x5 (wrap64 (x7 + 1)))) else (none)) else (none)) else (some true)
end
def r5_Right.f (k : Nat) (l0 : List (S53)) (a1 : Int) : Option (Bool) := (r5_Norm.f k l0 a1).bind fun bt190 => (if bt190.2 = 0 then (r5_Right.j0 k l0 bt190.1 ((bt190.1.length : Int) != (l0.length : Int))) else (r5_Right.j0 k l0 bt190.1 true))
theorem r5_Right.mono_l : ∀ k, (∀ y0 y1 y2, LeO (r5_Right.j0 k y0 y1 y2) (r5_Right.j0 (k + 1) y0 y1 y2)) ∧ (∀ y0 y1 y2, LeO (r5_Right.l0 k y0 y1 y2) (r5_Right.l0 (k + 1) y0 y1 y2))
 | 0 => ⟨fun _ _ _ r h => by simp [r5_Right.j0] at h, fun _ _ _ r h => by simp [r5_Right.l0] at h⟩
 | k + 1 => by
  obtain ⟨ih0, ih1⟩ := r5_Right.mono_l k
  refine ⟨?_, ?_⟩
  ·intro y0 y1 y2
   unfold r5_Right.j0
   repeat' first
   | (with_reducible exact ih0 _ _ _)
   | (with_reducible exact ih1 _ _ _)
   | (with_reducible exact r5_Norm.mono _ _ _)
   | (with_reducible exact LeO.refl _)
   | (with_reducible exact LeO.none _)
   | (with_reducible refine LeO.ite ?_ ?_)
   | (with_reducible refine LeO.bind ?_ (fun _ => ?_))
   | exact ih0 _ _ _
   | exact ih1 _ _ _
   | exact r5_Norm.mono _ _ _
   | exact LeO.none _
   | refine LeO.ite ?_ ?_
   | refine LeO.bind ?_ (fun _ => ?_)
  ·intro y0 y1 y2
   unfold r5_Right.l0
   repeat' first
   | (with_reducible exact ih0 _ _ _)
   | (with_reducible exact ih1 _ _ _)
   | (with_reducible exact r5_Norm.mono _ _ _)
   | (with_reducible exact LeO.refl _)
   | (with_reducible exact LeO.none _)
   | (with_reducible refine LeO.ite ?_ ?_)
   | (with_reducible refine LeO.bind ?_ (fun _ => ?_))
   | exact ih0 _ _ _
   | exact ih1 _ _ _
   | exact r5_Norm.mono _ _ _
   | exact LeO.none _
   | refine LeO.ite ?_ ?_
   | refine LeO.bind ?_ (fun _ => ?_)
theorem r5_Right.mono : ∀ a0 a1 k, LeO (r5_Right.f k a0 a1) (r5_Right.f (k + 1) a0 a1) := by
 intro a0 a1 k
 obtain ⟨ih0, ih1⟩ := r5_Right.mono_l k
 unfold r5_Right.f
 repeat' first
   | (with_reducible exact ih0 _ _ _)
   | (with_reducible exact ih1 _ _ _)
   | (with_reducible exact r5_Norm.mono _ _ _)
   | (with_reducible exact LeO.refl _)
   | (with_reducible exact LeO.none _)
   | (with_reducible refine LeO.ite ?_ ?_)
   | (with_reducible refine LeO.bind ?_ (fun _ => ?_))
   | exact ih0 _ _ _
   | exact ih1 _ _ _
   | exact r5_Norm.mono _ _ _
   | exact LeO.none _
   | refine LeO.ite ?_ ?_
   | refine LeO.bind ?_ (fun _ => ?_)
def r5_Has.l0 : Nat → List (S53) → Int → Int → Option (Bool)
 | 0, _, _, _ => none
 | k + 1, x0, x1, x5 => if x5 < (x0.length : Int) then (if 0 ≤ x5 then (if x1 ≥ ((rd_T53 x0 x5).f0) then (if (wrap64 (x1 - ((rd_T53 x0 x5).f0))) < ((rd_T53 x0 x5).f1) then (some true) else (r5_Has.l0 k x0 x1 (wrap64 (x5 + 1)))) else (r5_Has.l0 k x0 x1 (wrap64 (x5 + 1)))) else (none)) else (some false)
def r5_Has.f (k : Nat) (l0 : List (S53)) (a1 : Int) : Option (Bool) := r5_Has.l0 k l0 a1 0
theorem r5_Has.mono_l : ∀ k, (∀ y0 y1 y2, LeO (r5_Has.l0 k y0 y1 y2) (r5_Has.l0 (k + 1) y0 y1 y2))
 | 0 => fun _ _ _ r h => by simp [r5_Has.l0] at h
 | k + 1 => by
  have ih0 := r5_Has.mono_l k
  ·intro y0 y1 y2
   unfold r5_Has.l0
   repeat' first
   | (with_reducible exact ih0 _ _ _)
   | (with_reducible exact LeO.refl _)
   | (with_reducible exact LeO.none _)
   | (with_reducible refine LeO.ite ?_ ?_)
   | (with_reducible refine LeO.bind ?_ (fun _ => ?_))
   | exact ih0 _ _ _
   | exact LeO.none _
   | refine LeO.ite ?_ ?_
   | refine LeO.bind ?_ (fun _ => ?_)
theorem r5_Has.mono : ∀ a0 a1 k, LeO (r5_Has.f k a0 a1) (r5_Has.f (k + 1) a0 a1) := by
 intro a0 a1 k
 have ih0 := r5_Has.mono_l k
 unfold r5_Has.f
 repeat' first
   | (with_reducible exact ih0 _ _ _)
   | (with_reducible exact LeO.refl _)
   | (with_reducible exact LeO.none _)
   | (with_reducible refine LeO.ite ?_ ?_)
   | (with_reducible refine LeO.bind ?_ (fun _ => ?_))
   | exact ih0 _ _ _
   | exact LeO.none _
   | refine LeO.ite ?_ ?_
   | refine LeO.bind ?_ (fun _ => ?_)
def r5_Total.l0 : Nat → List (S53) → Int → Int → Option (Int)
 | 0, _, _, _ => none
 | k + 1, x0, x3, x4 => if x4 < (x0.length : Int) then (if 0 ≤ x4 then (r5_Total.l0 k x0 (wrap64 (x3 + (mx ((rd_T53 x0 x4).f1) 0))) (wrap64 (x4 + 1))) else (none)) else (some x3)
def r5_Total.f (k : Nat) (l0 : List (S53)) : Option (Int) := r5_Total.l0 k l0 0 0
theorem r5_Total.mono_l : ∀ k, (∀ y0 y1 y2, LeO (r5_Total.l0 k y0 y1 y2) (r5_Total.l0 (k + 1) y0 y1 y2))
 | 0 => fun _ _ _ r h => by simp [r5_Total.l0] at h
 | k + 1 => by
  have ih0 := r5_Total.mono_l k
  ·intro y0 y1 y2
   unfold r5_Total.l0
   repeat' first
   | (with_reducible exact ih0 _ _ _)
   | (with_reducible exact LeO.refl _)
   | (with_reducible exact LeO.none _)
   | (with_reducible refine LeO.ite ?_ ?_)
   | (with_reducible refine LeO.bind ?_ (fun _ => ?_))
   | exact ih0 _ _ _
   | exact LeO.none _
   | refine LeO.ite ?_ ?_
   | refine LeO.bind ?_ (fun _ => ?_)
theorem r5_Total.mono : ∀ a0 k, LeO (r5_Total.f k a0) (r5_Total.f (k + 1) a0) := by
 intro a0 k
 have ih0 := r5_Total.mono_l k
 unfold r5_Total.f
 repeat' first
   | (with_reducible exact ih0 _ _ _)
   | (with_reducible exact LeO.refl _)
   | (with_reducible exact LeO.none _)
   | (with_reducible refine LeO.ite ?_ ?_)
   | (with_reducible refine LeO.bind ?_ (fun _ => ?_))
   | exact ih0 _ _ _
   | exact LeO.none _
   | refine LeO.ite ?_ ?_
   | refine LeO.bind ?_ (fun _ => ?_)
def idxOf {α : Type} (p : α → Bool) (l : List α) : Int := if l.any p = true then ((l.takeWhile (fun x => !p x)).length : Int) else -1
theorem idx_hit {α : Type} (p : α → Bool) : ∀ (l : List α) (j : Nat) (x : α), (l.take j).any p = false → l[j]? = some x → p x = true → idxOf p l = (j : Int)
 | [], _, _, _, h, _ => by simp at h
 | y :: l, 0, x, _, h, hp => by
  simp at h; subst h
  unfold idxOf
  simp [hp]
 | y :: l, j + 1, x, ht, h, hp => by
  rw [List.take_succ_cons, List.any_cons, Bool.or_eq_false_iff] at ht
  have ih := idx_hit p l j x ht.2 (by simpa using h) hp
  have hany : l.any p = true := List.any_eq_true.2 ⟨x, List.mem_of_getElem? (by simpa using h), hp⟩
  unfold idxOf at ih ⊢
  rw [if_pos hany] at ih
  rw [List.any_cons, hany, Bool.or_true, if_pos rfl, List.takeWhile_cons, if_pos (by simp [ht.1]), List.length_cons]
  omega
theorem idx_miss {α : Type} (p : α → Bool) (l : List α) (h : l.any p = false) : idxOf p l = -1 := by unfold idxOf; rw [h]; rfl
theorem idx_nonneg {α : Type} (p : α → Bool) (l : List α) : decide (0 ≤ idxOf p l) = l.any p := by
 unfold idxOf
 cases l.any p
 ·rfl
 ·rw [if_pos rfl]; exact decide_eq_true (by omega)
theorem any_take_succ {α : Type} (p : α → Bool) (l : List α) (j : Nat) (x : α) (h : l[j]? = some x) (h0 : (l.take j).any p = false) (h1 : p x = false) : (l.take (j + 1)).any p = false := by
 rw [List.take_add_one, h, List.any_append, h0]
 simp [h1]
def isLow (x : S53) : Bool := decide (x.f0 < 2)
set_option maxHeartbeats 4000000 in
set_option maxRecDepth 100000 in
theorem head_low.pred (x : S53) (w : World) : Calls Tryd.prog 28 #[.agg #[.int .i64 x.f0, .int .i64 x.f1]] w fun e w' => e = .returned (.bool (isLow x)) ∧ Below w.heap.size w w' := by
 show Calls Tryd.prog 28 _ w fun e w' => e = .returned (.bool (decide (x.f0 < 2))) ∧ Below w.heap.size w w'
 go_enter Tryd.func28, Tryd.ntmps28
 go_wp2
 go_ret
 exact ⟨rfl, below_alloc (Below.refl _ _) _⟩
set_option maxHeartbeats 4000000 in
set_option maxRecDepth 100000 in
theorem head_low.idx (A0 : Option Addr) (c0 : Nat) (l0 : List S53) (w : World) (hr0 : Kd.C k53 w A0 l0.length l0) (hn : l0.length ≤ 1000000000000) :
  Calls Tryd.prog 52 #[.slice A0 l0.length c0, .func (.func 28) #[] #[]] w fun e w' => e = .returned (.int .i64 (idxOf isLow l0)) ∧ Below w.heap.size w w' := by
 have HR := Ax.mk hr0
 clear hr0
 go_enter Tryd.func52, Tryd.ntmps52
 go_wp2
 go_loopw [5, 8] (fun _ v8 wr => ∃ j : Nat, v8 = .int .i64 (j : Int) ∧ j ≤ l0.length ∧ Ax ((l0.take j).any isLow = false) ∧ Ax (Below w.heap.size w wr)) (fun _ v8 _ => l0.length - (intOf v8).toNat)
 case atStart => exact ⟨0, rfl, Nat.zero_le _, ⟨by simp⟩, ⟨Below.refl _ _⟩⟩
 case round =>
  obtain ⟨j, rfl, hj, HA, HB⟩ := hrel
  by_cases hlt : j < l0.length
  ·obtain ⟨ad, rfl, hx0, hx1⟩ := at_T53 HR.out (j : Int) (by omega) (by omega)
   have HX := Ax.mk (show l0[j]? = some (rd_T53 l0 (j : Int)) by unfold rd_T53; simp [List.getD, hlt])
   simp only [Int.toNat_natCast] at hx0 hx1
   replace hx0 := (HB.out.cell (World.block_lt_of_cell? w _ hx0)).trans hx0
   replace hx1 := (HB.out.cell (World.block_lt_of_cell? w _ hx1)).trans hx1
   generalize rd_T53 l0 (j : Int) = x at HX hx0 hx1
   have hp := head_low.pred x
   cases hq : isLow x with
   | true =>
    rw [hq] at hp
    have HQ := Ax.mk hq
    clear hq
    go_wp2_with (first | (go_at_call 28; fail))
    refine (hp _).mono ?_
    rintro e w1 ⟨rfl, hb1⟩
    go_wp2
    go_ret
    exact ⟨congrArg (fun z => Ending.returned (.int .i64 z)) (idx_hit isLow l0 j x HA.out HX.out HQ.out).symm, bP HB.out hb1⟩
   | false =>
    rw [hq] at hp
    have HQ := Ax.mk hq
    clear hq
    go_wp2_with (first | (go_at_call 28; fail))
    refine (hp _).mono ?_
    rintro e w1 ⟨rfl, hb1⟩
    have HB1 := Ax.mk (bP HB.out hb1)
    clear hb1
    go_wp2
    go_roundw
    case rel => exact ⟨j + 1, by go_num, by omega, ⟨any_take_succ isLow l0 j x HX.out HA.out HQ.out⟩, HB1⟩
    case measure => simp [intOf]; omega
  ·obtain rfl : j = l0.length := by omega
   go_wp2
   go_ret
   exact ⟨congrArg (fun z => Ending.returned (.int .i64 z)) (idx_miss isLow l0 (by have h := HA.out; rwa [List.take_length] at h)).symm, HB.out⟩
set_option maxHeartbeats 4000000 in
set_option maxRecDepth 100000 in
theorem head_low.contains (A0 : Option Addr) (c0 : Nat) (l0 : List S53) (w : World) (hr0 : Kd.C k53 w A0 l0.length l0) (hn : l0.length ≤ 1000000000000) :
  Calls Tryd.prog 30 #[.slice A0 l0.length c0, .func (.func 28) #[] #[]] w fun e w' => e = .returned (.bool (l0.any isLow)) ∧ Below w.heap.size w w' := by
 rw [← idx_nonneg]
 have hi := head_low.idx A0 c0 l0 w hr0 hn
 generalize idxOf isLow l0 = r at hi
 clear hr0
 go_enter Tryd.func30, Tryd.ntmps30
 go_wp2_with (go_at_call 52; refine hi.mono ?_; rintro e w' ⟨rfl, hb⟩)
 go_ret
 exact ⟨rfl, hb⟩
def head_Right.f (k : Nat) (a0 a1 a2 : Int) (l : List S53) : Option Bool :=
 if a1 < 2 then some false else if a2 < 0 then some false else if 8 < (l.length : Int) then some false else
 (span_Right.f k l a1).bind fun b => if b = true then (if l.any isLow = true then some false else (span_Total.f k l).bind fun n => some (decide (a2 ≤ wrap64 (n * 64)) && decide (wrap64 (wrap64 (n * 64) - a2) < 64))) else some false
theorem head_Right.mono : ∀ a0 a1 a2 a3 k, LeO (head_Right.f k a0 a1 a2 a3) (head_Right.f (k + 1) a0 a1 a2 a3) := by
 intro a0 a1 a2 a3 k
 unfold head_Right.f
 refine LeO.ite (LeO.refl _) (LeO.ite (LeO.refl _) (LeO.ite (LeO.refl _) (LeO.bind (span_Right.mono _ _ k) (fun b => LeO.ite (LeO.ite (LeO.refl _) (LeO.bind (span_Total.mono _ k) (fun _ => LeO.refl _))) (LeO.refl _)))))
set_option maxHeartbeats 4000000 in
set_option maxRecDepth 100000 in
theorem head_Right.calls (k : Nat) (a0_0 a0_1 a0_2 : Int) (A0_3 : Option Addr) (c0_3 : Nat) (l0_3 : List S53) (r : Bool) (w : World) (hr0_3 : Kd.C k53 w A0_3 l0_3.length l0_3) (hc0_3 : l0_3.length ≤ c0_3) (h : head_Right.f k a0_0 a0_1 a0_2 l0_3 = some r) :
  Calls Tryd.prog 13 #[.agg #[.int .u64 a0_0, .int .i64 a0_1, .int .i64 a0_2, .slice A0_3 l0_3.length c0_3]] w fun e w' => e = .returned (.bool r) ∧ Below w.heap.size w w' := by
 have HR := Ax.mk hr0_3
 have HC := Ax.mk hc0_3
 have H := Ax.mk h
 clear hr0_3 hc0_3 h
 have hb0 := below_alloc (Below.refl w.heap.size w) (.cells #[.int .u64 a0_0, .int .i64 a0_1, .int .i64 a0_2, .slice A0_3 l0_3.length c0_3] 25)
 have hbk := heap_alloc_new w (.cells #[.int .u64 a0_0, .int .i64 a0_1, .int .i64 a0_2, .slice A0_3 l0_3.length c0_3] 25)
 have HB0 := Ax.mk hb0
 have HBK := Ax.mk hbk
 clear hb0 hbk
 have hh := H.out
 unfold head_Right.f at hh
 by_cases c1 : a0_1 < 2
 ·rw [if_pos c1] at hh
  cases hh
  clear H
  go_enter Tryd.func13, Tryd.ntmps13
  go_wp2
  go_ret
  exact ⟨rfl, HB0.out⟩
 rw [if_neg c1] at hh
 by_cases c2 : a0_2 < 0
 ·rw [if_pos c2] at hh
  cases hh
  clear H
  go_enter Tryd.func13, Tryd.ntmps13
  go_wp2
  go_ret
  exact ⟨rfl, HB0.out⟩
 rw [if_neg c2] at hh
 by_cases c3 : 8 < (l0_3.length : Int)
 ·rw [if_pos c3] at hh
  cases hh
  clear H
  go_enter Tryd.func13, Tryd.ntmps13
  go_wp2
  go_ret
  exact ⟨rfl, HB0.out⟩
 rw [if_neg c3] at hh
 obtain ⟨b, hb, hh⟩ := Option.bind_eq_some_iff.1 hh
 clear H
 have H := Ax.mk hh
 have HSR := Ax.mk hb
 have HN := Ax.mk (show l0_3.length ≤ 8 by omega)
 clear hh hb
 go_enter Tryd.func13, Tryd.ntmps13
 go_wp2_with (first | (go_at_call 29; fail))
 refine (span_Right.calls k A0_3 c0_3 l0_3 a0_1 b _ (Kd.C_below HR.out HB0.out) HC.out HSR.out).mono ?_
 rintro e w1 ⟨rfl, hb1⟩
 have HB1 := Ax.mk (bP HB0.out hb1)
 have hk1 := bB HBK.out hb1
 have h0 := (bC hk1 0).trans rfl
 have h1 := (bC hk1 1).trans rfl
 have h2 := (bC hk1 2).trans rfl
 have h3 := (bC hk1 3).trans rfl
 have HK1 := Ax.mk hk1
 clear hb1 hk1
 cases b with
 | false =>
  have hh := H.out
  rw [if_neg (by decide)] at hh
  cases hh
  clear H
  go_wp2
  go_ret
  exact ⟨rfl, HB1.out⟩
 | true =>
  have hh := H.out
  rw [if_pos rfl] at hh
  clear H
  cases ha : l0_3.any isLow with
  | true =>
   rw [ha, if_pos rfl] at hh
   cases hh
   have hc := fun w hr => head_low.contains A0_3 c0_3 l0_3 w hr (Nat.le_trans HN.out (by decide))
   rw [ha] at hc
   clear ha
   have HCt := Lib.hid hc
   clear hc
   go_wp2_with (first | (go_at_call 30; fail))
   refine (HCt.out _ (Kd.C_below HR.out HB1.out)).mono ?_
   rintro e w2 ⟨rfl, hb2⟩
   have HB2 := Ax.mk (bP HB1.out hb2)
   clear h0 h1 h2 h3 hb2
   go_wp2
   go_ret
   exact ⟨rfl, HB2.out⟩
  | false =>
   rw [ha, if_neg (by decide)] at hh
   obtain ⟨n, hn, hh⟩ := Option.bind_eq_some_iff.1 hh
   cases hh
   have HT := Ax.mk hn
   have hc := fun w hr => head_low.contains A0_3 c0_3 l0_3 w hr (Nat.le_trans HN.out (by decide))
   rw [ha] at hc
   clear ha hn
   have HCt := Lib.hid hc
   clear hc
   go_wp2_with (first | (go_at_call 30; fail))
   refine (HCt.out _ (Kd.C_below HR.out HB1.out)).mono ?_
   rintro e w2 ⟨rfl, hb2⟩
   have HB2 := Ax.mk (bP HB1.out hb2)
   have hk2 := bB HK1.out hb2
   clear h0 h1 h2 h3 hb2 HK1 HB1
   have h0 := (bC hk2 0).trans rfl
   have h1 := (bC hk2 1).trans rfl
   have h2 := (bC hk2 2).trans rfl
   have h3 := (bC hk2 3).trans rfl
   have HK2 := Ax.mk hk2
   clear hk2
   go_wp2_with (first | (go_at_call 31; fail))
   refine (span_Total.calls k A0_3 c0_3 l0_3 n _ (Kd.C_below HR.out HB2.out) HC.out HT.out).mono ?_
   rintro e w3 ⟨rfl, hb3⟩
   have HB3 := Ax.mk (bP HB2.out hb3)
   have hk3 := bB HK2.out hb3
   clear h0 h1 h2 h3 hb3 HK2 HB2
   have h0 := (bC hk3 0).trans rfl
   have h1 := (bC hk3 1).trans rfl
   have h2 := (bC hk3 2).trans rfl
   have h3 := (bC hk3 3).trans rfl
   clear hk3
   by_cases c5 : a0_2 ≤ wrap64 (n * 64)
   ·have b5 : decide (a0_2 ≤ wrap64 (n * 64)) = true := decide_eq_true c5
    have B5 := Ax.mk b5
    go_wp2
    go_ret
    exact ⟨by rw [B5.out, Bool.true_and]; rfl, HB3.out⟩
   ·have b5 : decide (a0_2 ≤ wrap64 (n * 64)) = false := decide_eq_false c5
    have B5 := Ax.mk b5
    go_wp2
    go_ret
    exact ⟨by rw [B5.out, Bool.false_and]; rfl, HB3.out⟩
def r6_Need.f (a0 : Int) : Option (Int) := if (Int.tmod a0 64) > 0 then (some (wrap64 ((wrap64 (Int.tdiv a0 64)) + 1))) else (some (wrap64 (Int.tdiv a0 64)))
def r6_Right.j0 : Nat → Bool → Int → Int → Int → List (S53) → Option (Bool)
 | 0, _, _, _, _, _ => none
 | k + 1, x22, x201000, x201001, x201002, x201003 => if x22 = true then (some false) else ((r5_Right.f k x201003 x201001).bind fun t201 => (if t201 = true then ((r5_Has.f k x201003 0).bind fun t202 => (if t202 = true then (some false) else ((r5_Has.f k x201003 1).bind fun t203 => (if t203 = true then (some false) else ((r5_Total.f k x201003).bind fun t204 => ((r6_Need.f x201002).bind fun t205 => (some (t204 == t205)))))))) else (some false)))
def r6_Right.f (k : Nat) (a0_0 : Int) (a0_1 : Int) (a0_2 : Int) (l0_3 : List (S53)) : Option (Bool) := if a0_1 < 2 then (r6_Right.j0 k true a0_0 a0_1 a0_2 l0_3) else (if a0_1 > 8192 then (r6_Right.j0 k true a0_0 a0_1 a0_2 l0_3) else (if (l0_3.length : Int) > 8 then (r6_Right.j0 k true a0_0 a0_1 a0_2 l0_3) else (r6_Right.j0 k (decide (a0_2 < 0)) a0_0 a0_1 a0_2 l0_3)))
theorem r6_Right.mono_l : ∀ k, (∀ y0 y1 y2 y3 y4, LeO (r6_Right.j0 k y0 y1 y2 y3 y4) (r6_Right.j0 (k + 1) y0 y1 y2 y3 y4))
 | 0 => fun _ _ _ _ _ r h => by simp [r6_Right.j0] at h
 | k + 1 => by
  have ih0 := r6_Right.mono_l k
  ·intro y0 y1 y2 y3 y4
   unfold r6_Right.j0
   repeat' first
   | (with_reducible exact ih0 _ _ _ _ _)
   | (with_reducible exact r5_Has.mono _ _ _)
   | (with_reducible exact r5_Right.mono _ _ _)
   | (with_reducible exact r5_Total.mono _ _)
   | (with_reducible exact LeO.refl _)
   | (with_reducible exact LeO.none _)
   | (with_reducible refine LeO.ite ?_ ?_)
   | (with_reducible refine LeO.bind ?_ (fun _ => ?_))
   | exact ih0 _ _ _ _ _
   | exact r5_Has.mono _ _ _
   | exact r5_Right.mono _ _ _
   | exact r5_Total.mono _ _
   | exact LeO.none _
   | refine LeO.ite ?_ ?_
   | refine LeO.bind ?_ (fun _ => ?_)
theorem r6_Right.mono : ∀ a0 a1 a2 a3 k, LeO (r6_Right.f k a0 a1 a2 a3) (r6_Right.f (k + 1) a0 a1 a2 a3) := by
 intro a0 a1 a2 a3 k
 have ih0 := r6_Right.mono_l k
 unfold r6_Right.f
 repeat' first
   | (with_reducible exact ih0 _ _ _ _ _)
   | (with_reducible exact r5_Has.mono _ _ _)
   | (with_reducible exact r5_Right.mono _ _ _)
   | (with_reducible exact r5_Total.mono _ _)
   | (with_reducible exact LeO.refl _)
   | (with_reducible exact LeO.none _)
   | (with_reducible refine LeO.ite ?_ ?_)
   | (with_reducible refine LeO.bind ?_ (fun _ => ?_))
   | exact ih0 _ _ _ _ _
   | exact r5_Has.mono _ _ _
   | exact r5_Right.mono _ _ _
   | exact r5_Total.mono _ _
   | exact LeO.none _
   | refine LeO.ite ?_ ?_
   | refine LeO.bind ?_ (fun _ => ?_)
def r6_Right.T4 : Bool × List (List Nat × List Nat) := (true, [([], []), ([0], [0]), ([1], [1]), ([2, 1], [1, 2]), ([3, 1, 1], [1, 3]), ([4, 1], [1, 4]), ([1, 5], [1, 5]), ([6, 4], [6]), ([7], [7]), ([8, 7], [7, 8]), ([9, 7, 7], [7, 9]), ([10, 7], [7, 10]), ([7, 11], [7, 11]), ([12, 10], [12]), ([13], [13]), ([14, 13], [13, 14]), ([15, 13, 13], [13, 15]), ([13], [13]), ([17, 13], [13, 17]), ([18, 16, 13], [13, 18]), ([16, 19, 13], [13, 16, 19]), ([13, 20], [13, 20]), ([21, 19, 0, 1, 2, 3, 4, 5, 6, 7, 8, 9, 10, 11, 12, 13, 14, 15, 16, 17, 18, 19, 20, 21], [21])])
def r6_Right.B4 : List Nat := [0, 1, 3, 7, 15, 31, 63, 127, 255, 511, 1023, 2047, 4095, 8191, 16383, 32767, 65535, 16383, 147455, 524287, 1048575, 2097151, 4194303]
def head_Put.g : List S53 → ByteArray → Option ByteArray
 | [], acc => some acc
 | x :: r, acc => (le_Put.f (IntKind.u64.wrap x.f0) 2).bind fun p => (le_Put.f (IntKind.u64.wrap x.f1) 2).bind fun q => if p.size + q.size ≤ 1000 ∧ acc.size + (p ++ q).size ≤ 100000 then head_Put.g r (acc ++ (p ++ q)) else none
def head_Put.h (a0 a1 a2 n : Int) : Option ByteArray :=
 (le_Put.f a0 8).bind fun p1 => (le_Put.f (IntKind.u64.wrap a1) 2).bind fun p2 => (le_Put.f (IntKind.u64.wrap a2) 4).bind fun p3 => (le_Put.f (IntKind.u64.wrap n) 1).bind fun p4 =>
  if p1.size ≤ 1000 ∧ p2.size ≤ 1000 ∧ p3.size ≤ 1000 ∧ p4.size ≤ 1000 then some ((⟨#[114, 116, 99, 108]⟩ : ByteArray) ++ p1 ++ p2 ++ p3 ++ p4) else none
def head_Put.z (n : Nat) : ByteArray := ⟨(List.replicate n (0 : UInt8)).toArray⟩
theorem head_Put.z_size (n : Nat) : (head_Put.z n).size = n := by unfold head_Put.z; simp [ByteArray.size]
def head_Put.f (k : Nat) (a0 a1 a2 : Int) (l : List S53) : Option (ByteArray × Int) :=
 (head_Right.f k a0 a1 a2 l).bind fun ok => if ok = true then (if l.length ≤ 1000 then (head_Put.h a0 a1 a2 (l.length : Int)).bind fun s0 => (head_Put.g l s0).bind fun s1 => if s1.size ≤ 60 then (seal_Put.f (s1 ++ head_Put.z (60 - s1.size))).bind fun t => some (t, 0) else none else none) else some (⟨#[]⟩, 1)
theorem head_Put.mono : ∀ a0 a1 a2 a3 k, LeO (head_Put.f k a0 a1 a2 a3) (head_Put.f (k + 1) a0 a1 a2 a3) := by
 intro a0 a1 a2 a3 k
 unfold head_Put.f
 exact LeO.bind (head_Right.mono _ _ _ _ k) (fun _ => LeO.refl _)
theorem hp_builder_below {T e : TypeId} {B b : Nat} {bs : List Value} {w w1 : World} (h : Lib.IsBuilderF T e B b bs w) (hb : Below w.heap.size w w1) : Lib.IsBuilderF T e B b bs w1 := by
 have key : ∀ p, Lib.BuilderAtF T e B b p bs w → Lib.BuilderAtF T e B b p bs w1 := by
  rintro p ⟨hB, v, hv, ⟨hl, hown⟩, hne⟩
  have hlt : b < w.heap.size := (Array.getElem?_eq_some_iff.1 hv).1
  refine ⟨hB, v, (hb.block b hlt).trans hv, ⟨hl, ?_⟩, hne⟩
  rcases hown with hn | ⟨g, cap, cur, fz, h1, h2, h3, h4⟩
  ·exact Or.inl hn
  ·exact Or.inr ⟨g, cap, cur, fz, h1, h2, (hb.block g (Array.getElem?_eq_some_iff.1 h3).1).trans h3, h4⟩
 exact h.elim (fun x => .inl (key _ x)) (fun x => .inr (key _ x))
def HpB (b : Nat) (wr : World) (acc : ByteArray) : Prop := Lib.IsBuilderF 56 5 b b (Lib.byteCells acc.data.toList) wr
theorem hp_start (w : World) : HpB w.heap.size (w.alloc (.cells #[.pointer none, .slice none 0 0] 56)) ⟨#[]⟩ := Lib.IsBuilderF.of (Lib.fresh_isBuilder 56 5 w)
theorem hp_below {b : Nat} {wr w1 : World} {acc : ByteArray} (h : HpB b wr acc) (hb : Below wr.heap.size wr w1) : HpB b w1 acc := hp_builder_below h hb
theorem hp_cells (acc t : ByteArray) : Lib.byteCells acc.data.toList ++ Lib.strCells t = Lib.byteCells (acc ++ t).data.toList := by
 rw [Lib.strCells_eq, ← Lib.byteCells_append]
 simp [ByteArray.data_append]
theorem hp_write {b : Nat} {wr : World} {acc t : ByteArray} (h : HpB b wr acc) (hl : acc.size + t.size ≤ 100000000000) (hs : b ≤ wr.heap.size) :
  Calls Tryd.prog 21 #[.pointer (some ⟨b, 0, none⟩), .string t] wr fun e w' => e = .returned (.tuple #[.int .i64 t.size, .nilIface]) ∧ HpB b w' (acc ++ t) ∧ Below b wr w' ∧ Lib.OthersKept 5 (some b) wr w' := by
 refine (Sh.Builder_WriteString_k b b _ t wr h (by rw [Lib.byteCells_length]; have : acc.data.toList.length = acc.size := Array.length_toList; omega) hs).mono ?_
 rintro e w' ⟨rfl, hI, hb, ho⟩
 refine ⟨rfl, ?_, hb, ho⟩
 rw [hp_cells] at hI
 exact .inr hI
theorem hp_others {b k : Nat} {V V' : World} {t : TypeId} {acc : ByteArray} {c : Array Value} {fz : Nat × Nat} (h : Lib.OthersKept 5 (some b) V V') (hI : HpB b V acc) (hx : V.heap[k]? = some (.cells c t fz)) (hT : t ≠ 56) (he : t ≠ 5) : V'.heap[k]? = some (.cells c t fz) := by
 refine h k _ hx ?_ ?_
 ·intro eq
  cases eq
  rcases hI with ⟨_, v, hv, _⟩ | ⟨_, v, hv, _⟩ <;> (rw [hv] at hx; cases hx; exact hT rfl)
 ·intro c' fz' eq
  cases eq
  exact he rfl
theorem hp_read {b : Nat} {wr : World} {acc : ByteArray} (h : HpB b wr acc) (hs : b ≤ wr.heap.size) :
  Calls Tryd.prog 26 #[.pointer (some ⟨b, 0, none⟩)] wr fun e w' => e = .returned (.string acc) ∧ Below b wr w' := by
 refine (Sh.Builder_String_any_k b b acc.data.toList wr h hs).mono ?_
 rintro e w' ⟨rfl, _, hb, _⟩
 exact ⟨by cases acc; rfl, hb⟩
theorem hp_len {b : Nat} {wr : World} {acc : ByteArray} (h : HpB b wr acc) :
  Calls Tryd.prog 24 #[.pointer (some ⟨b, 0, none⟩)] wr fun e w' => e = .returned (.int .i64 (acc.size : Int)) ∧ wr = w' := by
 refine (Sh.Builder_Len_f b b _ wr h).mono ?_
 rintro e w' ⟨rfl, rfl⟩
 refine ⟨?_, rfl⟩
 rw [Lib.byteCells_length]
 have : acc.data.toList.length = acc.size := Array.length_toList
 rw [this]
theorem hp_repeat (n : Nat) : Lib.repeatL [(0 : UInt8)] n = List.replicate n 0 := by
 induction n with
 | zero => rfl
 | succ n ih => rw [Lib.repeatL, ih]; rfl
theorem hp_noughts (n : Nat) (w : World) (hn : n ≤ 1000000) :
  Calls Tryd.prog 23 #[.string ⟨#[0]⟩, .int .i64 (n : Int)] w fun e w' => e = .returned (.string (head_Put.z n)) ∧ Below w.heap.size w w' := by
 have h := Sh.strings_Repeat ⟨#[0]⟩ n w (by omega) (by show 1 * n ≤ _; omega)
 rw [show (⟨#[0]⟩ : ByteArray).data.toList = [0] from rfl, hp_repeat] at h
 exact h
theorem hp_rd (l : List S53) (j : Nat) (h : j < l.length) : l.drop j = rd_T53 l (j : Int) :: l.drop (j + 1) := by
 rw [List.drop_eq_getElem_cons h]
 congr 1
 unfold rd_T53
 simp [List.getD, h]
def HpX (a0 a1 a2 : Int) (A : Option Addr) (n c : Nat) (g : Nat) (V : World) : Prop :=
 V.cell? ⟨g, 0, none⟩ = some (.int .u64 a0) ∧ V.cell? ⟨g, 1, none⟩ = some (.int .i64 a1) ∧ V.cell? ⟨g, 2, none⟩ = some (.int .i64 a2) ∧ V.cell? ⟨g, 3, none⟩ = some (.slice A n c)
theorem hpX_of {a0 a1 a2 : Int} {A : Option Addr} {n c g : Nat} {V : World} (h : V.heap[g]? = some (.cells #[.int .u64 a0, .int .i64 a1, .int .i64 a2, .slice A n c] 25 (0, 0))) : HpX a0 a1 a2 A n c g V :=
 ⟨(bC h 0).trans rfl, (bC h 1).trans rfl, (bC h 2).trans rfl, (bC h 3).trans rfl⟩
theorem hpX_below {a0 a1 a2 : Int} {A : Option Addr} {n c g : Nat} {V V' : World} (h : HpX a0 a1 a2 A n c g V) {B : Nat} (hb : Below B V V') (hg : g < B) : HpX a0 a1 a2 A n c g V' :=
 ⟨(hb.cell (p := ⟨g, 0, none⟩) hg).trans h.1, (hb.cell (p := ⟨g, 1, none⟩) hg).trans h.2.1, (hb.cell (p := ⟨g, 2, none⟩) hg).trans h.2.2.1, (hb.cell (p := ⟨g, 3, none⟩) hg).trans h.2.2.2⟩
theorem hp_nil (t : ByteArray) : (⟨#[]⟩ : ByteArray) ++ t = t := by apply ByteArray.ext; simp [ByteArray.data_append]
set_option maxHeartbeats 8000000 in
set_option maxRecDepth 100000 in
theorem head_Put.calls (k : Nat) (a0_0 a0_1 a0_2 : Int) (A0_3 : Option Addr) (c0_3 : Nat) (l0_3 : List S53) (r1 : ByteArray) (r2 : Int) (w : World) (hr0_3 : Kd.C k53 w A0_3 l0_3.length l0_3) (hc0_3 : l0_3.length ≤ c0_3) (h : head_Put.f k a0_0 a0_1 a0_2 l0_3 = some (r1, r2)) :
  Calls Tryd.prog 10 #[.agg #[.int .u64 a0_0, .int .i64 a0_1, .int .i64 a0_2, .slice A0_3 l0_3.length c0_3]] w fun e w' => e = .returned (.tuple #[.string r1, .int .i64 r2]) ∧ Below w.heap.size w w' := by
 have HR := Ax.mk hr0_3
 have HC := Ax.mk hc0_3
 unfold head_Put.f at h
 replace h := Option.bind_eq_some_iff.1 h
 obtain ⟨ok, h1, h⟩ := h
 have A1 := Ax.mk h1
 have H := Ax.mk h
 clear hr0_3 hc0_3 h1 h
 have HB0 := Ax.mk (below_alloc (Below.refl w.heap.size w) (.cells #[.int .u64 a0_0, .int .i64 a0_1, .int .i64 a0_2, .slice A0_3 l0_3.length c0_3] 25))
 have HBK := Ax.mk (heap_alloc_new w (.cells #[.int .u64 a0_0, .int .i64 a0_1, .int .i64 a0_2, .slice A0_3 l0_3.length c0_3] 25))
 go_enter Tryd.func10, Tryd.ntmps10
 go_wp2_with (first | (go_at_call 13; fail))
 refine (head_Right.calls k a0_0 a0_1 a0_2 A0_3 c0_3 l0_3 ok _ (Kd.C_below HR.out HB0.out) HC.out A1.out).mono ?_
 rintro e W1 ⟨rfl, hb1⟩
 have hB1 := bP HB0.out hb1
 have hk1 := bB HBK.out hb1
 have hlt1 : w.heap.size < W1.heap.size := (Array.getElem?_eq_some_iff.1 hk1).1
 clear hb1 HB0 HBK A1
 cases ok with
 | false =>
  have hh := H.out
  rw [if_neg (by decide)] at hh
  cases hh
  have HB1 := Ax.mk hB1
  clear H hB1 hk1 hlt1
  go_wp2
  go_ret2
  exact ⟨rfl, HB1.out⟩
 | true =>
  have hh := H.out
  clear H
  rw [if_pos rfl] at hh
  by_cases hln : l0_3.length ≤ 1000
  case neg => rw [if_neg hln] at hh; cases hh
  rw [if_pos hln] at hh
  replace hh := Option.bind_eq_some_iff.1 hh
  obtain ⟨s0, hs0, hh⟩ := hh
  replace hh := Option.bind_eq_some_iff.1 hh
  obtain ⟨s1, hs1, hh⟩ := hh
  by_cases h60 : s1.size ≤ 60
  case neg => rw [if_neg h60] at hh; cases hh
  rw [if_pos h60] at hh
  replace hh := Option.bind_eq_some_iff.1 hh
  obtain ⟨t, ht, hh⟩ := hh
  cases hh
  unfold head_Put.h at hs0
  replace hs0 := Option.bind_eq_some_iff.1 hs0
  obtain ⟨p1, hp1, hs0⟩ := hs0
  replace hs0 := Option.bind_eq_some_iff.1 hs0
  obtain ⟨p2, hp2, hs0⟩ := hs0
  replace hs0 := Option.bind_eq_some_iff.1 hs0
  obtain ⟨p3, hp3, hs0⟩ := hs0
  replace hs0 := Option.bind_eq_some_iff.1 hs0
  obtain ⟨p4, hp4, hs0⟩ := hs0
  by_cases hsz : p1.size ≤ 1000 ∧ p2.size ≤ 1000 ∧ p3.size ≤ 1000 ∧ p4.size ≤ 1000
  case neg => rw [if_neg hsz] at hs0; cases hs0
  rw [if_pos hsz] at hs0
  obtain ⟨z1, z2, z3, z4⟩ := hsz
  have HP1 := Lib.hid (fun w => le_Put.calls a0_0 8 p1 w hp1)
  have HP2 := Lib.hid (fun w => le_Put.calls (IntKind.u64.wrap a0_1) 2 p2 w hp2)
  have HP3 := Lib.hid (fun w => le_Put.calls (IntKind.u64.wrap a0_2) 4 p3 w hp3)
  have HP4 := Lib.hid (fun w => le_Put.calls (IntKind.u64.wrap (l0_3.length : Int)) 1 p4 w hp4)
  have HS0 := Ax.mk (Option.some.inj hs0)
  have HS1 := Ax.mk hs1
  have HT := Ax.mk ht
  have H60 := Ax.mk h60
  have HLN := Ax.mk hln
  clear hp1 hp2 hp3 hp4 hs0 hs1 ht h60 hln
  have hI0 := hp_start W1
  have hb2 : Below W1.heap.size W1 (W1.alloc (.cells #[.pointer none, .slice none 0 0] 56)) := below_alloc (Below.refl _ _) _
  have hX0 := hpX_below (hpX_of hk1) hb2 hlt1
  have hB2 := bP hB1 hb2
  have hz2 : W1.heap.size < (W1.alloc (.cells #[.pointer none, .slice none 0 0] 56)).heap.size := by simp
  go_wp2
  generalize W1.alloc (.cells #[.pointer none, .slice none 0 0] 56) = W2 at hI0 hX0 hB2 hz2 ⊢
  have hcd : HpX a0_0 a0_1 a0_2 A0_3 l0_3.length c0_3 w.heap.size W2.drew := hX0
  have hb0 : Below W2.heap.size W2 W2.drew := ⟨rfl, rfl, rfl, Nat.le_refl _, fun _ _ => rfl⟩
  have f1 : (9223372036854775807 < 4 + p1.size) = False := eq_false (by omega)
  have f2 : (9223372036854775807 < 4 + p1.size + p2.size) = False := eq_false (by omega)
  have f3 : (9223372036854775807 < 4 + p1.size + p2.size + p3.size) = False := eq_false (by omega)
  have f4 : (9223372036854775807 < 4 + p1.size + p2.size + p3.size + p4.size) = False := eq_false (by omega)
  have hg2 : w.heap.size < W2.heap.size := Nat.lt_trans hlt1 hz2
  have hsS : ((⟨#[114, 116, 99, 108]⟩ : ByteArray) ++ p1 ++ p2 ++ p3 ++ p4).size ≤ 5000 := by
   simp only [ByteArray.size_append]
   show 4 + p1.size + p2.size + p3.size + p4.size ≤ 5000
   omega
  have hWS := fun V (hV : Below W2.heap.size W2 V) => hp_write (hp_below hI0 hV) (t := (⟨#[114, 116, 99, 108]⟩ : ByteArray) ++ p1 ++ p2 ++ p3 ++ p4) (by show 0 + _ ≤ _; omega) (by have := hV.size; omega)
  have HZ := Ax.mk (And.intro hlt1 (And.intro hz2 (And.intro z1 (And.intro z2 (And.intro z3 z4)))))
  have HI0 := Ax.mk hI0
  have HX0 := Ax.mk hX0
  have HK1 := Ax.mk hk1
  have HB2 := Ax.mk hB2
  have hP1 := HP1.out
  have hP2 := HP2.out
  have hP3 := HP3.out
  have hP4 := HP4.out
  clear hI0 hX0 hB2 hz2 hb2 hB1 hk1 hlt1 z1 z2 z3 z4 HP1 HP2 HP3 HP4 hsS
  go_region_held3 (fun V => V.cell? ⟨w.heap.size, 0, none⟩ = some (.int .u64 a0_0) ∧ V.cell? ⟨w.heap.size, 1, none⟩ = some (.int .i64 a0_1) ∧ V.cell? ⟨w.heap.size, 2, none⟩ = some (.int .i64 a0_2) ∧ V.cell? ⟨w.heap.size, 3, none⟩ = some (.slice A0_3 l0_3.length c0_3))
   (first | exact hd5 | exact hd4 | exact hd3 | exact hd2 | exact hd1 | exact hcd) (first
   | (go_at_call 22; refine (hP1 _).mono ?_; clear hP1; rintro e V1 ⟨rfl, hv1⟩; have hb1 := hb0.trans hv1; have hd1 : HpX a0_0 a0_1 a0_2 A0_3 l0_3.length c0_3 w.heap.size V1 := hpX_below HX0.out hb1 hg2)
   | (go_at_call 22; refine (hP2 _).mono ?_; clear hP2; rintro e V2 ⟨rfl, hv2⟩; have hb2 := hb1.trans (hv2.mono hb1.size); have hd2 : HpX a0_0 a0_1 a0_2 A0_3 l0_3.length c0_3 w.heap.size V2 := hpX_below HX0.out hb2 hg2)
   | (go_at_call 22; refine (hP3 _).mono ?_; clear hP3; rintro e V3 ⟨rfl, hv3⟩; have hb3 := hb2.trans (hv3.mono hb2.size); have hd3 : HpX a0_0 a0_1 a0_2 A0_3 l0_3.length c0_3 w.heap.size V3 := hpX_below HX0.out hb3 hg2)
   | (go_at_call 22; refine (hP4 _).mono ?_; clear hP4; rintro e V4 ⟨rfl, hv4⟩; have hb4 := hb3.trans (hv4.mono hb3.size); have hd4 : HpX a0_0 a0_1 a0_2 A0_3 l0_3.length c0_3 w.heap.size V4 := hpX_below HX0.out hb4 hg2)
   | (go_at_call 21; refine (hWS _ hb4).mono ?_; clear hWS; rintro e V5 ⟨rfl, hI5, hb5, _⟩; have hd5 : HpX a0_0 a0_1 a0_2 A0_3 l0_3.length c0_3 w.heap.size V5 := hpX_below hd4 hb5 HZ.out.1))
  rw [hp_nil, HS0.out] at hI5
  have hB5 := (bP HB2.out hb4).trans (hb5.mono (Nat.le_of_lt HZ.out.1))
  have hz5 : W1.heap.size < V5.heap.size := Nat.lt_of_lt_of_le HZ.out.2.1 (Nat.le_trans hb4.size hb5.size)
  have hs5 : s0.size ≤ 5000 := by
   have hq := HZ.out.2.2
   rw [← HS0.out]
   simp only [ByteArray.size_append]
   show 4 + p1.size + p2.size + p3.size + p4.size ≤ 5000
   omega
  have HI5 := Ax.mk hI5
  have HB5 := Ax.mk hB5
  have HZ5 := Ax.mk hz5
  have HS5 := Ax.mk hs5
  have c3 := hd5.2.2.2
  have HWz := Ax.mk HZ.out.1
  clear hI5 hB5 hz5 hs5 hd1 hd2 hd3 hd4 hd5 hb0 hb1 hb2 hb3 hb4 hb5 hcd hv1 hv2 hv3 hv4 f1 f2 f3 f4 hg2 HX0 HI0 HB2 HK1 HS0 HZ
  go_wp2
  go_loopw [34] (fun v34 wr => ∃ (j : Nat) (acc : ByteArray), v34 = .int .i64 (j : Int) ∧ j ≤ l0_3.length ∧ Ax (head_Put.g (l0_3.drop j) acc = some s1) ∧ Ax (acc.size ≤ 100000) ∧ Ax (HpB W1.heap.size wr acc) ∧ Ax (Below w.heap.size w wr) ∧ Ax (W1.heap.size < wr.heap.size)) (fun v34 _ => l0_3.length - (intOf v34).toNat)
  case atStart => exact ⟨0, s0, rfl, Nat.zero_le _, HS1, ⟨Nat.le_trans HS5.out (by decide)⟩, HI5, HB5, HZ5⟩
  case round =>
   clear HI5 HB5 HZ5 HS5 HS1 c3
   obtain ⟨j, acc, rfl, hj, HG, HS, HI, HB, HZ⟩ := hrel
   by_cases hlt : j < l0_3.length
   ·have HLT := Ax.mk hlt
    obtain ⟨ad, rfl, hx0, hx1⟩ := at_T53 HR.out (j : Int) (by omega) (by omega)
    have hG := HG.out
    rw [hp_rd l0_3 j hlt, head_Put.g] at hG
    clear HG
    replace hG := Option.bind_eq_some_iff.1 hG
    obtain ⟨p, hp, hG⟩ := hG
    replace hG := Option.bind_eq_some_iff.1 hG
    obtain ⟨q, hq, hG⟩ := hG
    simp only [Int.toNat_natCast] at hx0 hx1
    replace hx0 := (HB.out.cell (World.block_lt_of_cell? w _ hx0)).trans hx0
    replace hx1 := (HB.out.cell (World.block_lt_of_cell? w _ hx1)).trans hx1
    generalize rd_T53 l0_3 (j : Int) = x at hp hq hG hx0 hx1
    by_cases hc : p.size + q.size ≤ 1000 ∧ acc.size + (p ++ q).size ≤ 100000
    case neg => rw [if_neg hc] at hG; cases hG
    rw [if_pos hc] at hG
    have HG := Ax.mk hG
    have HC2 := Ax.mk hc
    have HP5 := Lib.hid (fun w => le_Put.calls (IntKind.u64.wrap x.f0) 2 p w hp)
    have HP6 := Lib.hid (fun w => le_Put.calls (IntKind.u64.wrap x.f1) 2 q w hq)
    clear hp hq hG hc
    go_wp2
    clear hx0 hx1
    have hb0 : Below wr.heap.size wr (wr.alloc (.cells #[.int .i64 x.f0, .int .i64 x.f1] 53)) := below_alloc (Below.refl _ _) _
    have hxk := heap_alloc_new wr (.cells #[.int .i64 x.f0, .int .i64 x.f1] 53)
    have hI1 := hp_below HI.out hb0
    have hB1 := bP HB.out hb0
    have hz1 : wr.heap.size < (wr.alloc (.cells #[.int .i64 x.f0, .int .i64 x.f1] 53)).heap.size := by simp
    generalize wr.alloc (.cells #[.int .i64 x.f0, .int .i64 x.f1] 53) = W2 at hb0 hxk hI1 hB1 hz1 ⊢
    have hb00 : Below W2.heap.size W2 W2.drew := ⟨rfl, rfl, rfl, Nat.le_refl _, fun _ _ => rfl⟩
    have hxlt : wr.heap.size < W2.heap.size := hz1
    have hd0 : W2.drew.cell? ⟨wr.heap.size, 0, none⟩ = some (.int .i64 x.f0) ∧ W2.drew.cell? ⟨wr.heap.size, 1, none⟩ = some (.int .i64 x.f1) := ⟨(bC hxk 0).trans rfl, (bC hxk 1).trans rfl⟩
    have hcc : ∀ V : World, V.heap[wr.heap.size]? = some (.cells #[.int .i64 x.f0, .int .i64 x.f1] 53 (0, 0)) → V.cell? ⟨wr.heap.size, 0, none⟩ = some (.int .i64 x.f0) ∧ V.cell? ⟨wr.heap.size, 1, none⟩ = some (.int .i64 x.f1) := fun V h => ⟨(bC h 0).trans rfl, (bC h 1).trans rfl⟩
    have HCC := Lib.hid hcc
    have f1 : (9223372036854775807 < p.size + q.size) = False := eq_false (by have := HC2.out; omega)
    have hWS := fun V (hV : Below W2.heap.size W2 V) => hp_write (hp_below hI1 hV) (t := p ++ q) (by have := HC2.out; omega) (by have := hV.size; have := HZ.out; omega)
    have hP5 := HP5.out
    have hP6 := HP6.out
    have HXK := Ax.mk hxk
    have HI1 := Ax.mk hI1
    have HB1 := Ax.mk hB1
    have HZ1 := Ax.mk hz1
    clear hcc HP5 HP6 hxk hI1 hB1 hz1 hb0 HI HB
    go_region_held3 (fun V => V.cell? ⟨wr.heap.size, 0, none⟩ = some (.int .i64 x.f0) ∧ V.cell? ⟨wr.heap.size, 1, none⟩ = some (.int .i64 x.f1))
     (first | exact hd3 | exact hd2 | exact hd1 | exact hd0) (first
     | (go_at_call 22; refine (hP5 _).mono ?_; clear hP5; rintro e V1 ⟨rfl, hv1⟩; have hb1 := hb00.trans hv1; have hd1 := HCC.out V1 (bB HXK.out hb1))
     | (go_at_call 22; refine (hP6 _).mono ?_; clear hP6; rintro e V2 ⟨rfl, hv2⟩; have hb2 := hb1.trans (hv2.mono hb1.size); have hd2 := HCC.out V2 (bB HXK.out hb2))
     | (go_at_call 21; refine (hWS _ hb2).mono ?_; clear hWS; rintro e V3 ⟨rfl, hI3, hb3, ho3⟩; have hd3 := HCC.out V3 (hp_others ho3 (hp_below HI1.out hb2) (bB HXK.out hb2) (by decide) (by decide))))
    have HI3 := Ax.mk hI3
    have HB3 := Ax.mk ((bP HB1.out hb2).trans (hb3.mono (Nat.le_of_lt HWz.out)))
    have HZ3 := Ax.mk (show W1.heap.size < V3.heap.size by have h1 := HZ.out; have h2 := HZ1.out; have h3 := hb2.size; have h4 := hb3.size; omega)
    clear hI3 hb00 hb1 hb2 hb3 ho3 hd0 hd1 hd2 hd3 hv1 hv2 f1 hxlt HXK HI1 HB1 HZ1 HCC
    have hjb : j ≤ 1000 := by have h1 := HLN.out; have h2 := HLT.out; omega
    go_wp2
    go_roundw
    case rel => exact ⟨j + 1, acc ++ (p ++ q), by go_num, HLT.out, HG, ⟨by rw [ByteArray.size_append]; exact HC2.out.2⟩, HI3, HB3, HZ3⟩
    case measure => have := HLT.out; simp [intOf]; omega
   ·obtain rfl : j = l0_3.length := by omega
    have hG := HG.out
    rw [List.drop_length, head_Put.g] at hG
    cases hG
    clear HG HS
    have hn : (60 : Int) - (s1.size : Int) = ((60 - s1.size : Nat) : Int) := by have := H60.out; omega
    have HN := Ax.mk hn
    have h6 : s1.size ≤ 60 := H60.out
    clear hn
    go_wp2_with (first | (go_at_call 24; fail))
    refine (hp_len HI.out).mono ?_
    rintro e w' ⟨rfl, rfl⟩
    go_wp2_with (first | (go_at_call 23; fail))
    rw [HN.out]
    refine (hp_noughts (60 - s1.size) _ (by omega)).mono ?_
    rintro e w2 ⟨rfl, hb2⟩
    have HI2 := Ax.mk (hp_below HI.out hb2)
    have HB2 := Ax.mk (bP HB.out hb2)
    have HZ2 := Ax.mk (Nat.lt_of_lt_of_le HZ.out hb2.size)
    clear hb2 HI HB HZ
    have hzs := head_Put.z_size (60 - s1.size)
    have HZS := Ax.mk hzs
    have HTS := Lib.hid (fun w => seal_Put.calls (s1 ++ head_Put.z (60 - s1.size)) r1 w HT.out)
    clear hzs HT
    generalize head_Put.z (60 - s1.size) = Z at HZS HTS ⊢
    go_wp2_with (first | (go_at_call 21; fail))
    refine (hp_write HI2.out (by have := HZS.out; omega) (Nat.le_of_lt HZ2.out)).mono ?_
    rintro e w3 ⟨rfl, hI3, hb3, _⟩
    have HI3 := Ax.mk hI3
    have HB3 := Ax.mk (HB2.out.trans (hb3.mono (Nat.le_of_lt HWz.out)))
    have HZ3 := Ax.mk (Nat.lt_of_lt_of_le HZ2.out hb3.size)
    clear hI3 hb3 HI2 HB2 HZ2
    go_wp2_with (first | (go_at_call 26; fail))
    refine (hp_read HI3.out (Nat.le_of_lt HZ3.out)).mono ?_
    rintro e w4 ⟨rfl, hb4⟩
    have HB4 := Ax.mk (HB3.out.trans (hb4.mono (Nat.le_of_lt HWz.out)))
    clear hb4 HI3 HB3 HZ3
    go_wp2_with (first | (go_at_call 25; fail))
    refine (HTS.out _).mono ?_
    rintro e w5 ⟨rfl, hb5⟩
    have HB5 := Ax.mk (bP HB4.out hb5)
    clear hb5 HB4
    go_wp2
    go_ret2
    exact ⟨rfl, HB5.out⟩
mutual
def r6_Put.l0 : Nat → ByteArray → Int → Int → Int → Int → List (S53) → Option (ByteArray × Int)
 | 0, _, _, _, _, _, _ => none
 | k + 1, x5, x6, x212000, x212001, x212002, x212003 => if x6 < (x212003.length : Int) then (if 0 ≤ x6 then ((r2_Put.f k (IntKind.u64.wrap ((rd_T53 x212003 x6).f0)) 2).bind fun t218 => (if x5.size + t218.size ≤ 9223372036854775807 then ((r2_Put.f k (IntKind.u64.wrap ((rd_T53 x212003 x6).f1)) 2).bind fun t220 => (if x5.size + t218.size + t220.size ≤ 9223372036854775807 then (r6_Put.l0 k ((x5 ++ t218) ++ t220) (wrap64 (x6 + 1)) x212000 x212001 x212002 x212003) else (none))) else (none))) else (none)) else (r6_Put.l1 k x5)
def r6_Put.l1 : Nat → ByteArray → Option (ByteArray × Int)
 | 0, _ => none
 | k + 1, x5 => if (x5.size : Int) < 60 then (if x5.size + 1 ≤ 9223372036854775807 then (r6_Put.l1 k (x5 ++ (⟨#[0]⟩ : ByteArray))) else (none)) else ((r3_Put.f k x5).bind fun t221 => (some (t221, 0)))
end
def r6_Put.f (k : Nat) (a0_0 : Int) (a0_1 : Int) (a0_2 : Int) (l0_3 : List (S53)) : Option (ByteArray × Int) := (r6_Right.f k a0_0 a0_1 a0_2 l0_3).bind fun t212 => (if t212 = true then ((r2_Put.f k a0_0 8).bind fun t213 => (if 4 + t213.size ≤ 9223372036854775807 then ((r2_Put.f k (IntKind.u64.wrap (a0_1)) 2).bind fun t214 => (if (⟨#[114, 116, 99, 108]⟩ : ByteArray).size + t213.size + t214.size ≤ 9223372036854775807 then ((r2_Put.f k (IntKind.u64.wrap (a0_2)) 4).bind fun t215 => (if (⟨#[114, 116, 99, 108]⟩ : ByteArray).size + t213.size + t214.size + t215.size ≤ 9223372036854775807 then ((r2_Put.f k (IntKind.u64.wrap ((l0_3.length : Int))) 1).bind fun t216 => (if (⟨#[114, 116, 99, 108]⟩ : ByteArray).size + t213.size + t214.size + t215.size + t216.size ≤ 9223372036854775807 then (r6_Put.l0 k (((((⟨#[114, 116, 99, 108]⟩ : ByteArray) ++ t213) ++ t214) ++ t215) ++ t216) 0 a0_0 a0_1 a0_2 l0_3) else (none))) else (none))) else (none))) else (none))) else (some ((⟨#[]⟩ : ByteArray), 1)))
theorem r6_Put.mono_l : ∀ k, (∀ y0 y1 y2 y3 y4 y5, LeO (r6_Put.l0 k y0 y1 y2 y3 y4 y5) (r6_Put.l0 (k + 1) y0 y1 y2 y3 y4 y5)) ∧ (∀ y0, LeO (r6_Put.l1 k y0) (r6_Put.l1 (k + 1) y0))
 | 0 => ⟨fun _ _ _ _ _ _ r h => by simp [r6_Put.l0] at h, fun _ r h => by simp [r6_Put.l1] at h⟩
 | k + 1 => by
  obtain ⟨ih0, ih1⟩ := r6_Put.mono_l k
  refine ⟨?_, ?_⟩
  ·intro y0 y1 y2 y3 y4 y5
   unfold r6_Put.l0
   repeat' first
   | (with_reducible exact ih0 _ _ _ _ _ _)
   | (with_reducible exact ih1 _)
   | (with_reducible exact r2_Put.mono _ _ _)
   | (with_reducible exact r3_Put.mono _ _)
   | (with_reducible exact r6_Right.mono _ _ _ _ _)
   | (with_reducible exact LeO.refl _)
   | (with_reducible exact LeO.none _)
   | (with_reducible refine LeO.ite ?_ ?_)
   | (with_reducible refine LeO.bind ?_ (fun _ => ?_))
   | exact ih0 _ _ _ _ _ _
   | exact ih1 _
   | exact r2_Put.mono _ _ _
   | exact r3_Put.mono _ _
   | exact r6_Right.mono _ _ _ _ _
   | exact LeO.none _
   | refine LeO.ite ?_ ?_
   | refine LeO.bind ?_ (fun _ => ?_)
  ·intro y0
   unfold r6_Put.l1
   repeat' first
   | (with_reducible exact ih0 _ _ _ _ _ _)
   | (with_reducible exact ih1 _)
   | (with_reducible exact r2_Put.mono _ _ _)
   | (with_reducible exact r3_Put.mono _ _)
   | (with_reducible exact r6_Right.mono _ _ _ _ _)
   | (with_reducible exact LeO.refl _)
   | (with_reducible exact LeO.none _)
   | (with_reducible refine LeO.ite ?_ ?_)
   | (with_reducible refine LeO.bind ?_ (fun _ => ?_))
   | exact ih0 _ _ _ _ _ _
   | exact ih1 _
   | exact r2_Put.mono _ _ _
   | exact r3_Put.mono _ _
   | exact r6_Right.mono _ _ _ _ _
   | exact LeO.none _
   | refine LeO.ite ?_ ?_
   | refine LeO.bind ?_ (fun _ => ?_)
theorem r6_Put.mono : ∀ a0 a1 a2 a3 k, LeO (r6_Put.f k a0 a1 a2 a3) (r6_Put.f (k + 1) a0 a1 a2 a3) := by
 intro a0 a1 a2 a3 k
 obtain ⟨ih0, ih1⟩ := r6_Put.mono_l k
 unfold r6_Put.f
 repeat' first
   | (with_reducible exact ih0 _ _ _ _ _ _)
   | (with_reducible exact ih1 _)
   | (with_reducible exact r2_Put.mono _ _ _)
   | (with_reducible exact r3_Put.mono _ _)
   | (with_reducible exact r6_Right.mono _ _ _ _ _)
   | (with_reducible exact LeO.refl _)
   | (with_reducible exact LeO.none _)
   | (with_reducible refine LeO.ite ?_ ?_)
   | (with_reducible refine LeO.bind ?_ (fun _ => ?_))
   | exact ih0 _ _ _ _ _ _
   | exact ih1 _
   | exact r2_Put.mono _ _ _
   | exact r3_Put.mono _ _
   | exact r6_Right.mono _ _ _ _ _
   | exact LeO.none _
   | refine LeO.ite ?_ ?_
   | refine LeO.bind ?_ (fun _ => ?_)
def r6_Put.T4 : Bool × List (List Nat × List Nat) := (true, [([], []), ([0], [0]), ([1], [1]), ([2], [2]), ([], []), ([4], [4]), ([5], [5]), ([6, 2], [6]), ([3, 7], [3, 7]), ([], []), ([9], [9]), ([10], [10]), ([11, 7], [11]), ([8, 12], [8, 12]), ([], []), ([14], [14]), ([15], [15]), ([16], [16]), ([17, 12], [17]), ([13, 18], [13, 18]), ([19, 18, 0, 1, 2, 3, 4, 5, 6, 7, 8, 9, 10, 11, 12, 13, 14, 15, 16, 17, 18, 19], [19])])
def r6_Put.B4 : List Nat := [0, 1, 3, 7, 0, 16, 48, 119, 255, 0, 512, 1536, 3831, 8191, 0, 16384, 49152, 114688, 253687, 524287, 1048575]
def r6_Put.T8 : Bool × List (List Nat × List Nat) := (true, [([], []), ([], []), ([1], [1]), ([], []), ([2, 3], [2, 3]), ([4], [4]), ([5], [5]), ([6], [6]), ([7], [7]), ([0, 8], [0, 8]), ([], []), ([10], [10]), ([], []), ([11, 12], [11, 12]), ([13], [13]), ([14], [14]), ([15], [15]), ([16, 8], [16]), ([9, 17], [9, 17]), ([18, 17, 0, 1, 2, 3, 4, 5, 6, 7, 8, 9, 10, 11, 12, 13, 14, 15, 16, 17, 18], [0, 18])])
def r6_Put.B8 : List Nat := [0, 0, 2, 0, 14, 30, 62, 126, 254, 511, 0, 1024, 0, 7168, 15360, 31744, 64512, 130558, 262143, 524287]
end Go.Proofs.YtcgejogmiglalaaDoor.Fn
end
section
namespace Go.Proofs.YtcgejogmiglalaaDoor.Fn
open Go.RowKit Go.Proofs.YtcgejogmiglalaaDoorW.PrintWords Go.Proofs.YtcgejogmiglalaaDoorW.PrintLast Go.Proofs.YtcgejogmiglalaaDoorW.PrintMore Go.Proofs.YtcgejogmiglalaaDoor.Lf
open List (setIfInBounds_toArray set_cons_zero set_cons_succ)
attribute [local go_sem] max2_int min2_int max_two min_two max_three min_three max_four min_four   -- for this text's walks alone
set_option linter.unusedVariables false
set_option linter.unusedSimpArgs false
def seal_Take.f (a0 : ByteArray) : Option (ByteArray × Int) := if (wrap64 ((a0.size : Int) - 4)) < 0 then (some ((⟨#[]⟩ : ByteArray), 10)) else (if 0 ≤ (wrap64 ((a0.size : Int) - 4)) then (if (wrap64 ((a0.size : Int) - 4)) ≤ (a0.size : Int) then ((le_Get.f (a0.extract ((wrap64 ((a0.size : Int) - 4)) : Int).toNat a0.size)).bind fun t110 => ((seal_Sum.f (a0.extract 0 ((wrap64 ((a0.size : Int) - 4)) : Int).toNat)).bind fun t111 => (if t110 = (IntKind.u64.wrap (t111)) then (some (a0.extract 0 ((wrap64 ((a0.size : Int) - 4)) : Int).toNat, 0)) else (some ((⟨#[]⟩ : ByteArray), 9))))) else (none)) else (none))
def seal_Take.T4 : Bool × List (List Nat × List Nat) := (true, [([], []), ([], []), ([0, 1], [0, 1]), ([2], [2]), ([], []), ([], []), ([4, 5], [4, 5]), ([6, 3], [6]), ([7], [7]), ([3, 8], [3, 8]), ([9, 7], [9])])
def seal_Take.B4 : List Nat := [0, 0, 3, 7, 0, 0, 48, 127, 255, 511, 1023]
theorem seal_Take.tab4 : rtab .any (opsOf Tryd.f37 4) = seal_Take.T4 := by kernel_rfl
theorem seal_Take.bits4 : waitsOk seal_Take.T4.2 seal_Take.B4 = true := by kernel_rfl
set_option maxHeartbeats 8000000 in
set_option maxRecDepth 100000 in
theorem seal_Take.calls (a0 : ByteArray) (r1 : ByteArray) (r2 : Int) (w : World) (h : seal_Take.f a0 = some (r1, r2)) :
  Calls Tryd.prog 37 #[.string a0] w fun e w' => e = .returned (.tuple #[.string r1, .int .i64 r2]) ∧ Below w.heap.size w w' := by
 have HB := Ax.mk (Below.refl w.heap.size w)
 have H : (if (wrap64 ((a0.size : Int) - 4)) < 0 then (some ((⟨#[]⟩ : ByteArray), 10)) else (if 0 ≤ (wrap64 ((a0.size : Int) - 4)) then (if (wrap64 ((a0.size : Int) - 4)) ≤ (a0.size : Int) then ((le_Get.f (a0.extract ((wrap64 ((a0.size : Int) - 4)) : Int).toNat a0.size)).bind fun t110 => ((seal_Sum.f (a0.extract 0 ((wrap64 ((a0.size : Int) - 4)) : Int).toNat)).bind fun t111 => (if t110 = (IntKind.u64.wrap (t111)) then (some (a0.extract 0 ((wrap64 ((a0.size : Int) - 4)) : Int).toNat, 0)) else (some ((⟨#[]⟩ : ByteArray), 9))))) else (none)) else (none))) = some (r1, r2) := h
 clear h
 by_cases c2 : (wrap64 ((a0.size : Int) - 4)) < 0
 ·rw [if_pos c2] at H
  have c2b0 : decide ((wrap64 ((a0.size : Int) - 4)) < 0) = true := decide_eq_true c2
  clear c2
  simp only [Option.some.injEq, Prod.mk.injEq] at H
  obtain ⟨rfl, rfl⟩ := H
  go_enter Tryd.func37, Tryd.ntmps37
  go_wp2
  go_ret2
  exact ⟨by first | rfl | (simp [errW_none, errW_some] <;> rfl) | (simp [*, errW_none, errW_some] <;> rfl), bA⟩
 ·rw [if_neg c2] at H
  have c2b0 : decide ((wrap64 ((a0.size : Int) - 4)) < 0) = false := decide_eq_false c2
  clear c2
  obtain ⟨ji3, hji3⟩ : ∃ j_ : Int, (wrap64 ((a0.size : Int) - 4)) = j_ := ⟨_, rfl⟩
  replace H : (if 0 ≤ (ji3) then (if (ji3) ≤ (a0.size : Int) then ((le_Get.f (a0.extract ((ji3) : Int).toNat a0.size)).bind fun t110 => ((seal_Sum.f (a0.extract 0 ((ji3) : Int).toNat)).bind fun t111 => (if t110 = (IntKind.u64.wrap (t111)) then (some (a0.extract 0 ((ji3) : Int).toNat, 0)) else (some ((⟨#[]⟩ : ByteArray), 9))))) else (none)) else (none)) = some (r1, r2) := by first | (rw [hji3] at H; exact H) | (simp only [hji3] at H ⊢; exact H)
  (try rw [hji3] at c2b0)
  have hji3w : (IntKind.i64.wrap ((a0.size : Int) - 4)) = ji3 := (i64_w _).trans hji3
  by_cases c4 : 0 ≤ (ji3)
  ·rw [if_pos c4] at H
   have c4b0 := eq_true c4
   have c4b1 : decide (0 ≤ (ji3)) = true := decide_eq_true c4
   clear c4
   by_cases c5 : (ji3) ≤ (a0.size : Int)
   ·rw [if_pos c5] at H
    have c5b0 := eq_true c5
    have c5b1 : decide ((ji3) ≤ (a0.size : Int)) = true := decide_eq_true c5
    clear c5
    replace H := Option.bind_eq_some_iff.mp H
    obtain ⟨t110, A60, H⟩ := H
    replace H : ((seal_Sum.f (a0.extract 0 ((ji3) : Int).toNat)).bind fun t111 => (if t110 = (IntKind.u64.wrap (t111)) then (some (a0.extract 0 ((ji3) : Int).toNat, 0)) else (some ((⟨#[]⟩ : ByteArray), 9)))) = some (r1, r2) := H
    have A6 := Ax.mk A60
    clear A60
    have c7b0 := eq_true (of_decide_eq_true (by first | (with_reducible assumption) | assumption) : 0 ≤ (ji3))
    have c8b0 := eq_true (of_decide_eq_true (by first | (with_reducible assumption) | assumption) : (ji3) ≤ (a0.size : Int))
    replace H := Option.bind_eq_some_iff.mp H
    obtain ⟨t111, A90, H⟩ := H
    replace H : (if t110 = (IntKind.u64.wrap (t111)) then (some (a0.extract 0 ((ji3) : Int).toNat, 0)) else (some ((⟨#[]⟩ : ByteArray), 9))) = some (r1, r2) := H
    have A9 := Ax.mk A90
    clear A90
    by_cases c10 : t110 = (IntKind.u64.wrap (t111))
    ·rw [if_pos c10] at H
     have c10b0 : (t110 == (IntKind.u64.wrap (t111))) = true := beq_iff_eq.mpr c10
     have c10b1 : (t110 != (IntKind.u64.wrap (t111))) = false := bne_eq_false_iff_eq.mpr c10
     clear c10
     have c11b0 := eq_true (of_decide_eq_true (by first | (with_reducible assumption) | assumption) : 0 ≤ (ji3))
     have c12b0 := eq_true (of_decide_eq_true (by first | (with_reducible assumption) | assumption) : (ji3) ≤ (a0.size : Int))
     simp only [Option.some.injEq, Prod.mk.injEq] at H
     obtain ⟨rfl, rfl⟩ := H
     go_enter Tryd.func37, Tryd.ntmps37
     try go_wp2
     have n0_ := Ax.mk (below_drew1 HB.out)
     clear HB
     have HB := n0_
     clear n0_
     refine start_ (n := 11) (S := fun w' => True) (ds := []) #[false, false, false, false, false, false, false, false, false, false, false] (by kernel_rfl) rfl rfl trivial (fun hHeld => ?_); refine with_tabW seal_Take.tab4 seal_Take.bits4 (fun HT_ HW_ => ?_)
     generalize w.drew = w13 at HB hHeld ⊢
     refine pure_ (i := 0) (N := some 12) (v := ?_) (a' := ?_) #[true, false, false, false, false, false, false, false, false, false, false] rfl rfl (any_of HT_.out (by kernel_rfl)) (fun _ _ _ h => h) (Or.inl ⟨by rfl, ?_⟩) ?_ ?_
     rotate_left
     ·intro w'
      go_simp
      with_reducible rfl
     rotate_left
     ·simp only [Act.put, setIfInBounds_toArray, set_cons_zero, set_cons_succ, i64_w, i32_w]
      rfl
     refine pure_ (i := 1) (N := some 13) (v := ?_) (a' := ?_) #[true, true, false, false, false, false, false, false, false, false, false] rfl rfl (any_of HT_.out (by kernel_rfl)) (fun _ _ _ h => h) (Or.inl ⟨by rfl, ?_⟩) ?_ ?_
     rotate_left
     ·intro w'
      go_simp
      with_reducible rfl
     rotate_left
     ·simp only [Act.put, setIfInBounds_toArray, set_cons_zero, set_cons_succ, i64_w, i32_w]
      rfl
     refine pure_ (i := 2) (N := some 14) (v := ?_) (a' := ?_) #[true, true, true, false, false, false, false, false, false, false, false] rfl rfl (any_of HT_.out (by kernel_rfl)) (fun _ _ _ h => h) (Or.inl ⟨by rfl, ?_⟩) ?_ ?_
     rotate_left
     ·intro w'
      go_simp
      with_reducible rfl
     rotate_left
     ·simp only [Act.put, setIfInBounds_toArray, set_cons_zero, set_cons_succ, i64_w, i32_w]
      rfl
     refine pure_ (i := 4) (N := some 16) (v := ?_) (a' := ?_) #[true, true, true, false, true, false, false, false, false, false, false] rfl rfl (any_of HT_.out (by kernel_rfl)) (fun _ _ _ h => h) (Or.inl ⟨by rfl, ?_⟩) ?_ ?_
     rotate_left
     ·intro w'
      go_simp
      with_reducible rfl
     rotate_left
     ·simp only [Act.put, setIfInBounds_toArray, set_cons_zero, set_cons_succ, i64_w, i32_w]
      rfl
     refine pure_ (i := 5) (N := some 17) (v := ?_) (a' := ?_) #[true, true, true, false, true, true, false, false, false, false, false] rfl rfl (any_of HT_.out (by kernel_rfl)) (fun _ _ _ h => h) (Or.inl ⟨by rfl, ?_⟩) ?_ ?_
     rotate_left
     ·intro w'
      go_simp
      with_reducible rfl
     rotate_left
     ·simp only [Act.put, setIfInBounds_toArray, set_cons_zero, set_cons_succ, i64_w, i32_w]
      rfl
     refine pure_ (i := 6) (N := some 18) (v := ?_) (a' := ?_) #[true, true, true, false, true, true, true, false, false, false, false] rfl rfl (any_of HT_.out (by kernel_rfl)) (fun _ _ _ h => h) (Or.inl ⟨by rfl, ?_⟩) ?_ ?_
     rotate_left
     ·intro w'
      go_simp
      with_reducible rfl
     rotate_left
     ·simp only [Act.put, setIfInBounds_toArray, set_cons_zero, set_cons_succ, i64_w, i32_w]
      rfl
     refine one_ (i := 3) (N := some 15) #[true, true, true, true, true, true, true, false, false, false, false] rfl rfl (one_of HT_.out (by kernel_rfl)) (by decide) (fun K hK => ?_)
     refine goes_ Tryd.func54 (by kernel_rfl) rfl #[.string (a0.extract ((ji3) : Int).toNat a0.size)] (by rfl) rfl rfl (by (try simp only [List.map_toArray, List.map_cons, List.map_nil]); first | done | (simp only [hji3]; rfl) | rfl | (simp only [List.length_drop, List.length_take]; rfl) | (rw [wrap_sum2 (by assumption)]; rfl)) ?_
     with_reducible refine (le_Get.calls (a0.extract ((ji3) : Int).toNat a0.size) t110 _ A6.out).mono ?_
     rintro e w14 ⟨rfl, hb⟩
     refine ⟨_, rfl, ?_⟩
     have n0_ := Ax.mk (bP bA hb)
     clear HB
     have HB := n0_
     clear n0_
     (try clear hb)
     (try clear hb2)
     (try clear hk)
     (try clear hi)
     refine hK.out _ _ trivial (fun hHeld => ?_)
     clear hK K
     refine norm_ (a' := ?_) ?_ ?_
     rotate_left
     ·show Act.put _ (some 15) _ = _
      simp only [Act.put, setIfInBounds_toArray, set_cons_zero, set_cons_succ, i64_w, i32_w]
      rfl
     refine one_ (i := 7) (N := some 19) #[true, true, true, true, true, true, true, true, false, false, false] rfl rfl (one_of HT_.out (by kernel_rfl)) (by decide) (fun K hK => ?_)
     refine goes_ Tryd.func49 (by kernel_rfl) rfl #[.string (a0.extract 0 ((ji3) : Int).toNat)] (by rfl) rfl rfl (by (try simp only [List.map_toArray, List.map_cons, List.map_nil]); first | done | (simp only [hji3]; rfl) | rfl | (simp only [List.length_drop, List.length_take]; rfl) | (rw [wrap_sum2 (by assumption)]; rfl)) ?_
     with_reducible refine (seal_Sum.calls (a0.extract 0 ((ji3) : Int).toNat) t111 _ A9.out).mono ?_
     rintro e w15 ⟨rfl, hb⟩
     refine ⟨_, rfl, ?_⟩
     have n0_ := Ax.mk (bP bA hb)
     clear HB
     have HB := n0_
     clear n0_
     (try clear hb)
     (try clear hb2)
     (try clear hk)
     (try clear hi)
     refine hK.out _ _ trivial (fun hHeld => ?_)
     clear hK K
     refine norm_ (a' := ?_) ?_ ?_
     rotate_left
     ·show Act.put _ (some 19) _ = _
      simp only [Act.put, setIfInBounds_toArray, set_cons_zero, set_cons_succ, i64_w, i32_w]
      rfl
     refine pure_ (i := 8) (N := some 20) (v := ?_) (a' := ?_) #[true, true, true, true, true, true, true, true, true, false, false] rfl rfl (any_of HT_.out (by kernel_rfl)) (fun _ _ _ h => h) (Or.inl ⟨by rfl, ?_⟩) ?_ ?_
     rotate_left
     ·intro w'
      go_simp
      with_reducible rfl
     rotate_left
     ·simp only [Act.put, setIfInBounds_toArray, set_cons_zero, set_cons_succ, i64_w, i32_w]
      rfl
     refine pure_ (i := 9) (N := some 21) (v := ?_) (a' := ?_) #[true, true, true, true, true, true, true, true, true, true, false] rfl rfl (any_of HT_.out (by kernel_rfl)) (fun _ _ _ h => h) (Or.inl ⟨by rfl, ?_⟩) ?_ ?_
     rotate_left
     ·intro w'
      go_simp
      with_reducible rfl
     rotate_left
     ·simp only [Act.put, setIfInBounds_toArray, set_cons_zero, set_cons_succ, i64_w, i32_w]
      rfl
     refine pure_ (i := 10) (N := some 11) (v := ?_) (a' := ?_) #[true, true, true, true, true, true, true, true, true, true, true] rfl rfl (any_of HT_.out (by kernel_rfl)) (fun _ _ _ h => h) (Or.inl ⟨by rfl, ?_⟩) ?_ ?_
     rotate_left
     ·intro w'
      go_simp
      with_reducible rfl
     rotate_left
     ·simp only [Act.put, setIfInBounds_toArray, set_cons_zero, set_cons_succ, i64_w, i32_w]
      rfl
     refine done_ (done_of HT_.out (by kernel_rfl)) ?_
     try go_wp2
     go_ret2
     exact ⟨by first | rfl | (simp [errW_none, errW_some] <;> rfl) | (simp only [← hji3]; first | rfl | (simp [errW_none, errW_some] <;> rfl)) | (simp [*, errW_none, errW_some] <;> rfl), bA⟩
    ·rw [if_neg c10] at H
     have c10b0 : (t110 == (IntKind.u64.wrap (t111))) = false := beq_eq_false_iff_ne.mpr c10
     have c10b1 : (t110 != (IntKind.u64.wrap (t111))) = true := bne_iff_ne.mpr c10
     simp only [Option.some.injEq, Prod.mk.injEq] at H
     obtain ⟨rfl, rfl⟩ := H
     go_enter Tryd.func37, Tryd.ntmps37
     try go_wp2
     have n0_ := Ax.mk (below_drew1 HB.out)
     clear HB
     have HB := n0_
     clear n0_
     refine start_ (n := 11) (S := fun w' => True) (ds := []) #[false, false, false, false, false, false, false, false, false, false, false] (by kernel_rfl) rfl rfl trivial (fun hHeld => ?_); refine with_tabW seal_Take.tab4 seal_Take.bits4 (fun HT_ HW_ => ?_)
     generalize w.drew = w16 at HB hHeld ⊢
     refine pure_ (i := 0) (N := some 12) (v := ?_) (a' := ?_) #[true, false, false, false, false, false, false, false, false, false, false] rfl rfl (any_of HT_.out (by kernel_rfl)) (fun _ _ _ h => h) (Or.inl ⟨by rfl, ?_⟩) ?_ ?_
     rotate_left
     ·intro w'
      go_simp
      with_reducible rfl
     rotate_left
     ·simp only [Act.put, setIfInBounds_toArray, set_cons_zero, set_cons_succ, i64_w, i32_w]
      rfl
     refine pure_ (i := 1) (N := some 13) (v := ?_) (a' := ?_) #[true, true, false, false, false, false, false, false, false, false, false] rfl rfl (any_of HT_.out (by kernel_rfl)) (fun _ _ _ h => h) (Or.inl ⟨by rfl, ?_⟩) ?_ ?_
     rotate_left
     ·intro w'
      go_simp
      with_reducible rfl
     rotate_left
     ·simp only [Act.put, setIfInBounds_toArray, set_cons_zero, set_cons_succ, i64_w, i32_w]
      rfl
     refine pure_ (i := 2) (N := some 14) (v := ?_) (a' := ?_) #[true, true, true, false, false, false, false, false, false, false, false] rfl rfl (any_of HT_.out (by kernel_rfl)) (fun _ _ _ h => h) (Or.inl ⟨by rfl, ?_⟩) ?_ ?_
     rotate_left
     ·intro w'
      go_simp
      with_reducible rfl
     rotate_left
     ·simp only [Act.put, setIfInBounds_toArray, set_cons_zero, set_cons_succ, i64_w, i32_w]
      rfl
     refine pure_ (i := 4) (N := some 16) (v := ?_) (a' := ?_) #[true, true, true, false, true, false, false, false, false, false, false] rfl rfl (any_of HT_.out (by kernel_rfl)) (fun _ _ _ h => h) (Or.inl ⟨by rfl, ?_⟩) ?_ ?_
     rotate_left
     ·intro w'
      go_simp
      with_reducible rfl
     rotate_left
     ·simp only [Act.put, setIfInBounds_toArray, set_cons_zero, set_cons_succ, i64_w, i32_w]
      rfl
     refine pure_ (i := 5) (N := some 17) (v := ?_) (a' := ?_) #[true, true, true, false, true, true, false, false, false, false, false] rfl rfl (any_of HT_.out (by kernel_rfl)) (fun _ _ _ h => h) (Or.inl ⟨by rfl, ?_⟩) ?_ ?_
     rotate_left
     ·intro w'
      go_simp
      with_reducible rfl
     rotate_left
     ·simp only [Act.put, setIfInBounds_toArray, set_cons_zero, set_cons_succ, i64_w, i32_w]
      rfl
     refine pure_ (i := 6) (N := some 18) (v := ?_) (a' := ?_) #[true, true, true, false, true, true, true, false, false, false, false] rfl rfl (any_of HT_.out (by kernel_rfl)) (fun _ _ _ h => h) (Or.inl ⟨by rfl, ?_⟩) ?_ ?_
     rotate_left
     ·intro w'
      go_simp
      with_reducible rfl
     rotate_left
     ·simp only [Act.put, setIfInBounds_toArray, set_cons_zero, set_cons_succ, i64_w, i32_w]
      rfl
     refine one_ (i := 3) (N := some 15) #[true, true, true, true, true, true, true, false, false, false, false] rfl rfl (one_of HT_.out (by kernel_rfl)) (by decide) (fun K hK => ?_)
     refine goes_ Tryd.func54 (by kernel_rfl) rfl #[.string (a0.extract ((ji3) : Int).toNat a0.size)] (by rfl) rfl rfl (by (try simp only [List.map_toArray, List.map_cons, List.map_nil]); first | done | (simp only [hji3]; rfl) | rfl | (simp only [List.length_drop, List.length_take]; rfl) | (rw [wrap_sum2 (by assumption)]; rfl)) ?_
     with_reducible refine (le_Get.calls (a0.extract ((ji3) : Int).toNat a0.size) t110 _ A6.out).mono ?_
     rintro e w17 ⟨rfl, hb⟩
     refine ⟨_, rfl, ?_⟩
     have n0_ := Ax.mk (bP bA hb)
     clear HB
     have HB := n0_
     clear n0_
     (try clear hb)
     (try clear hb2)
     (try clear hk)
     (try clear hi)
     refine hK.out _ _ trivial (fun hHeld => ?_)
     clear hK K
     refine norm_ (a' := ?_) ?_ ?_
     rotate_left
     ·show Act.put _ (some 15) _ = _
      simp only [Act.put, setIfInBounds_toArray, set_cons_zero, set_cons_succ, i64_w, i32_w]
      rfl
     refine one_ (i := 7) (N := some 19) #[true, true, true, true, true, true, true, true, false, false, false] rfl rfl (one_of HT_.out (by kernel_rfl)) (by decide) (fun K hK => ?_)
     refine goes_ Tryd.func49 (by kernel_rfl) rfl #[.string (a0.extract 0 ((ji3) : Int).toNat)] (by rfl) rfl rfl (by (try simp only [List.map_toArray, List.map_cons, List.map_nil]); first | done | (simp only [hji3]; rfl) | rfl | (simp only [List.length_drop, List.length_take]; rfl) | (rw [wrap_sum2 (by assumption)]; rfl)) ?_
     with_reducible refine (seal_Sum.calls (a0.extract 0 ((ji3) : Int).toNat) t111 _ A9.out).mono ?_
     rintro e w18 ⟨rfl, hb⟩
     refine ⟨_, rfl, ?_⟩
     have n0_ := Ax.mk (bP bA hb)
     clear HB
     have HB := n0_
     clear n0_
     (try clear hb)
     (try clear hb2)
     (try clear hk)
     (try clear hi)
     refine hK.out _ _ trivial (fun hHeld => ?_)
     clear hK K
     refine norm_ (a' := ?_) ?_ ?_
     rotate_left
     ·show Act.put _ (some 19) _ = _
      simp only [Act.put, setIfInBounds_toArray, set_cons_zero, set_cons_succ, i64_w, i32_w]
      rfl
     refine pure_ (i := 8) (N := some 20) (v := ?_) (a' := ?_) #[true, true, true, true, true, true, true, true, true, false, false] rfl rfl (any_of HT_.out (by kernel_rfl)) (fun _ _ _ h => h) (Or.inl ⟨by rfl, ?_⟩) ?_ ?_
     rotate_left
     ·intro w'
      go_simp
      with_reducible rfl
     rotate_left
     ·simp only [Act.put, setIfInBounds_toArray, set_cons_zero, set_cons_succ, i64_w, i32_w]
      rfl
     refine pure_ (i := 9) (N := some 21) (v := ?_) (a' := ?_) #[true, true, true, true, true, true, true, true, true, true, false] rfl rfl (any_of HT_.out (by kernel_rfl)) (fun _ _ _ h => h) (Or.inl ⟨by rfl, ?_⟩) ?_ ?_
     rotate_left
     ·intro w'
      go_simp
      with_reducible rfl
     rotate_left
     ·simp only [Act.put, setIfInBounds_toArray, set_cons_zero, set_cons_succ, i64_w, i32_w]
      rfl
     refine pure_ (i := 10) (N := some 11) (v := ?_) (a' := ?_) #[true, true, true, true, true, true, true, true, true, true, true] rfl rfl (any_of HT_.out (by kernel_rfl)) (fun _ _ _ h => h) (Or.inl ⟨by rfl, ?_⟩) ?_ ?_
     rotate_left
     ·intro w'
      go_simp
      with_reducible rfl
     rotate_left
     ·simp only [Act.put, setIfInBounds_toArray, set_cons_zero, set_cons_succ, i64_w, i32_w]
      rfl
     refine done_ (done_of HT_.out (by kernel_rfl)) ?_
     try go_wp2
     go_ret2
     exact ⟨by first | rfl | (simp [errW_none, errW_some] <;> rfl) | (simp only [← hji3]; first | rfl | (simp [errW_none, errW_some] <;> rfl)) | (simp [*, errW_none, errW_some] <;> rfl), bA⟩
   ·rw [if_neg c5] at H
    exact absurd H (by simp)
  ·rw [if_neg c4] at H
   exact absurd H (by simp)
end Go.Proofs.YtcgejogmiglalaaDoor.Fn
end
section
namespace Go.Proofs.YtcgejogmiglalaaDoor.Fn
open Go.RowKit Go.Proofs.YtcgejogmiglalaaDoorW.PrintWords Go.Proofs.YtcgejogmiglalaaDoorW.PrintLast Go.Proofs.YtcgejogmiglalaaDoorW.PrintMore Go.Proofs.YtcgejogmiglalaaDoor.Lf
attribute [local go_sem] max2_int min2_int max_two min_two max_three min_three max_four min_four   -- for this text's walks alone
set_option linter.unusedVariables false
set_option linter.unusedSimpArgs false
def IsS74 (w0 W : World) (g : Nat) (f0 : ByteArray) (f1 : Bool) : Prop := W.heap[g]? = some (.cells #[.string f0, .bool f1] 74 (0, 0)) ∧ w0.heap.size ≤ g
theorem IsS74.grown {w0 W : World} {g : Nat} {f0 : ByteArray} {f1 : Bool} {W1 : World} {row : Option Nat} (h : IsS74 w0 W g f0 f1) (hw : W.grownBy W1 row) (hne : some g ≠ row) : IsS74 w0 W1 g f0 f1 := by
 obtain ⟨hb, hg⟩ := h
 exact ⟨blk_grown hb hw hne, hg⟩
theorem IsS74.kept {w0 W : World} {g : Nat} {f0 : ByteArray} {f1 : Bool} {W1 : World} {S : Nat → Prop} (h : IsS74 w0 W g f0 f1) (hk : Kept W W1 S) (hne : ¬ S g) : IsS74 w0 W1 g f0 f1 := by
 obtain ⟨hb, hg⟩ := h
 exact ⟨blk_kept hb hk hne, hg⟩
theorem IsS74.below {w0 W : World} {g : Nat} {f0 : ByteArray} {f1 : Bool} {W1 : World} (h : IsS74 w0 W g f0 f1) (hw : Below W.heap.size W W1) : IsS74 w0 W1 g f0 f1 := h.grown (grown_of_below hw none) (by simp)
theorem IsS74.alloc {w0 W : World} {g : Nat} {f0 : ByteArray} {f1 : Bool} (h : IsS74 w0 W g f0 f1) (o : Obj) : IsS74 w0 (W.alloc o) g f0 f1 := h.below (below_alloc (Below.refl _ _) o)
theorem IsS74.drewN {w0 W : World} {g : Nat} {f0 : ByteArray} {f1 : Bool} (h : IsS74 w0 W g f0 f1) (m : Nat) : IsS74 w0 (W.drewN m) g f0 f1 := h
theorem IsS74.drew {w0 W : World} {g : Nat} {f0 : ByteArray} {f1 : Bool} (h : IsS74 w0 W g f0 f1) : IsS74 w0 W.drew g f0 f1 := h
theorem IsS74.at_ {w0 W : World} {g : Nat} {f0 : ByteArray} {f1 : Bool} {w' : World} {m : Nat} (hq : W.drewN m = w') (h : IsS74 w0 W g f0 f1) : IsS74 w0 w' g f0 f1 := by subst hq; exact IsS74.drewN h m
theorem IsS74.apart {w0 W : World} {g : Nat} {f0 : ByteArray} {f1 : Bool} {α : Type} {d : Kd α} {e : Nat} {base : Nat} {ok : Nat → Prop} {v : Value} {xs : List α} (h : IsS74 w0 W g f0 f1) (ho : d.R e W base ok v xs) (ht : ∀ q, q ∈ e :: d.E → q ≠ 74) : d.R e W base (fun k => ok k ∧ k ≠ g) v xs := by
 obtain ⟨hb, hg⟩ := h
 exact Kd.R_types ho hb ht
theorem IsS74.own_ne {w0 W : World} {g : Nat} {f0 : ByteArray} {f1 : Bool} {α : Type} {d : Kd α} {e : Nat} {base : Nat} {ok : Nat → Prop} {v : Value} {xs : List α} (h : IsS74 w0 W g f0 f1) (ho : d.R e W base ok v xs) (ht : e ≠ 74) : some g ≠ v.ownBlock := by
 obtain ⟨hb, hg⟩ := h
 exact Kd.R_ne ho hb ht
theorem IsS74.ge {w0 W : World} {g : Nat} {f0 : ByteArray} {f1 : Bool} (h : IsS74 w0 W g f0 f1) : w0.heap.size ≤ g := by
 obtain ⟨hb, hg⟩ := h
 exact hg
theorem cellS74_0 {W : World} {g : Nat} {f0 : ByteArray} {f1 : Bool} (h : W.heap[g]? = some (.cells #[.string f0, .bool f1] 74 (0, 0))) : W.cell? ⟨g, 0, none⟩ = some (.string f0) := (bC h 0).trans rfl
theorem IsS74.set_0 {w0 W : World} {g : Nat} {f0 : ByteArray} {f1 : Bool} (h : IsS74 w0 W g f0 f1) (x : ByteArray) : IsS74 w0 (W.setCell ⟨g, 0, none⟩ (.string x)) g x f1 := by
 obtain ⟨hb, hg⟩ := h
 exact ⟨by simpa using blk_set hb 0 (.string x), hg⟩
theorem cellS74_1 {W : World} {g : Nat} {f0 : ByteArray} {f1 : Bool} (h : W.heap[g]? = some (.cells #[.string f0, .bool f1] 74 (0, 0))) : W.cell? ⟨g, 1, none⟩ = some (.bool f1) := (bC h 1).trans rfl
theorem IsS74.set_1 {w0 W : World} {g : Nat} {f0 : ByteArray} {f1 : Bool} (h : IsS74 w0 W g f0 f1) (x : Bool) : IsS74 w0 (W.setCell ⟨g, 1, none⟩ (.bool x)) g f0 x := by
 obtain ⟨hb, hg⟩ := h
 exact ⟨by simpa using blk_set hb 1 (.bool x), hg⟩
theorem IsS74.new (w0 W : World) (f0 : ByteArray) (f1 : Bool) (hB : Below w0.heap.size w0 W) : IsS74 w0 (W.alloc (.cells #[.string f0, .bool f1] 74)) W.heap.size f0 f1 := ⟨by simpa using heap_alloc_new W _, hB.size⟩
def le_Reader_Text.f (s0_0 : ByteArray) (s0_1 : Bool) (a1 : Int) : Option (ByteArray × ByteArray × Bool) := if s0_1 = true then (some ((⟨#[]⟩ : ByteArray), s0_0, true)) else (if a1 < 0 then (some ((⟨#[]⟩ : ByteArray), s0_0, true)) else (if a1 > (s0_0.size : Int) then (some ((⟨#[]⟩ : ByteArray), s0_0, decide (a1 > (s0_0.size : Int)))) else (if 0 ≤ a1 then (if a1 ≤ (s0_0.size : Int) then (some (s0_0.extract 0 (a1 : Int).toNat, s0_0.extract (a1 : Int).toNat s0_0.size, decide (a1 > (s0_0.size : Int)))) else (none)) else (none))))
set_option maxHeartbeats 8000000 in
set_option maxRecDepth 100000 in
theorem le_Reader_Text.calls (g : Nat) (s0_0 : ByteArray) (s0_1 : Bool) (a1 : Int) (r1 : ByteArray) (r2 : ByteArray) (r3 : Bool) (w0 w : World) (hI : IsS74 w0 w g s0_0 s0_1) (hB : Below w0.heap.size w0 w) (h : le_Reader_Text.f s0_0 s0_1 a1 = some (r1, r2, r3)) :
  Calls Tryd.prog 39 #[.pointer (some ⟨g, 0, none⟩), .int .i64 a1] w fun e w' => e = .returned (.string r1) ∧ IsS74 w0 w' g r2 r3 ∧ Below w0.heap.size w0 w' ∧ KeepBut w w' g none := by
 have HI0 := Ax.mk hI
 have HK := Ax.mk (KeepBut.refl w g none)
 have HL := Ax.mk hB.size
 clear hI
 have HW0 := Ax.mk hB.size
 have HB := Ax.mk hB
 clear hB
 have H : (if s0_1 = true then (some ((⟨#[]⟩ : ByteArray), s0_0, true)) else (if a1 < 0 then (some ((⟨#[]⟩ : ByteArray), s0_0, true)) else (if a1 > (s0_0.size : Int) then (some ((⟨#[]⟩ : ByteArray), s0_0, decide (a1 > (s0_0.size : Int)))) else (if 0 ≤ a1 then (if a1 ≤ (s0_0.size : Int) then (some (s0_0.extract 0 (a1 : Int).toNat, s0_0.extract (a1 : Int).toNat s0_0.size, decide (a1 > (s0_0.size : Int)))) else (none)) else (none))))) = some (r1, r2, r3) := h
 clear h
 by_cases c3 : s0_1 = true
 ·subst c3
  have H1 : (some ((⟨#[]⟩ : ByteArray), s0_0, true)) = some (r1, r2, r3) := by rw [if_pos rfl] at H; exact H
  clear H
  have H := H1
  clear H1
  simp only [Option.some.injEq, Prod.mk.injEq] at H
  obtain ⟨rfl, rfl, rfl⟩ := H
  obtain ⟨HGz4, hgz4⟩ := HI0.out
  have hcz4_0 := cellS74_0 HGz4
  have hcz4_1 := cellS74_1 HGz4
  have hfz4_0 := bF HGz4 0
  have hfz4_1 := bF HGz4 1
  clear HGz4 hgz4
  go_enter Tryd.func39, Tryd.ntmps39
  go_wp2
  go_ret
  exact ⟨by first | rfl | (simp [errW_none, errW_some] <;> rfl) | (simp [*, errW_none, errW_some] <;> rfl), by repeat (first | (with_reducible first | exact HI0.out | apply IsS74.alloc | apply IsS74.drewN | apply IsS74.drew | apply IsS74.set_0 | apply IsS74.set_1) | exact HI0.out), by repeat (first | (with_reducible first | exact HB.out | apply below_alloc | apply pw_below_drewN | apply below_drew1 | refine below_set ?_ (IsS74.ge HI0.out)) | exact HB.out), by repeat (first | (with_reducible first | exact HK.out | apply KeepBut.set_ | apply keep_drewN | apply keep_drew | apply keep_alloc) | exact HK.out)⟩
 ·replace c3 := Bool.eq_false_iff.mpr c3
  subst c3
  have H1 : (if a1 < 0 then (some ((⟨#[]⟩ : ByteArray), s0_0, true)) else (if a1 > (s0_0.size : Int) then (some ((⟨#[]⟩ : ByteArray), s0_0, decide (a1 > (s0_0.size : Int)))) else (if 0 ≤ a1 then (if a1 ≤ (s0_0.size : Int) then (some (s0_0.extract 0 (a1 : Int).toNat, s0_0.extract (a1 : Int).toNat s0_0.size, decide (a1 > (s0_0.size : Int)))) else (none)) else (none)))) = some (r1, r2, r3) := by rw [if_neg (show ¬ (false = true) by decide)] at H; exact H
  clear H
  have H := H1
  clear H1
  by_cases c5 : a1 < 0
  ·rw [if_pos c5] at H
   (try rw [decide_eq_true c5] at H)
   have c5b0 : decide (a1 < 0) = true := decide_eq_true c5
   clear c5
   simp only [Option.some.injEq, Prod.mk.injEq] at H
   obtain ⟨rfl, rfl, rfl⟩ := H
   obtain ⟨HGz6, hgz6⟩ := HI0.out
   have hcz6_0 := cellS74_0 HGz6
   have hcz6_1 := cellS74_1 HGz6
   have hfz6_0 := bF HGz6 0
   have hfz6_1 := bF HGz6 1
   clear HGz6 hgz6
   go_enter Tryd.func39, Tryd.ntmps39
   go_wp2
   go_ret
   exact ⟨by first | rfl | (simp [errW_none, errW_some] <;> rfl) | (simp [*, errW_none, errW_some] <;> rfl), by repeat (first | (with_reducible first | exact HI0.out | apply IsS74.alloc | apply IsS74.drewN | apply IsS74.drew | apply IsS74.set_0 | apply IsS74.set_1) | exact HI0.out), by repeat (first | (with_reducible first | exact HB.out | apply below_alloc | apply pw_below_drewN | apply below_drew1 | refine below_set ?_ (IsS74.ge HI0.out)) | exact HB.out), by repeat (first | (with_reducible first | exact HK.out | apply KeepBut.set_ | apply keep_drewN | apply keep_drew | apply keep_alloc) | exact HK.out)⟩
  ·rw [if_neg c5] at H
   (try rw [decide_eq_false c5] at H)
   have c5b0 : decide (a1 < 0) = false := decide_eq_false c5
   clear c5
   by_cases c7 : a1 > (s0_0.size : Int)
   ·rw [if_pos c7] at H
    (try rw [decide_eq_true c7] at H)
    have c7b0 : decide ((s0_0.size : Int) < a1) = true := decide_eq_true c7
    clear c7
    simp only [Option.some.injEq, Prod.mk.injEq] at H
    obtain ⟨rfl, rfl, rfl⟩ := H
    obtain ⟨HGz8, hgz8⟩ := HI0.out
    have hcz8_0 := cellS74_0 HGz8
    have hcz8_1 := cellS74_1 HGz8
    have hfz8_0 := bF HGz8 0
    have hfz8_1 := bF HGz8 1
    clear HGz8 hgz8
    go_enter Tryd.func39, Tryd.ntmps39
    go_wp2
    go_ret
    exact ⟨by first | rfl | (simp [errW_none, errW_some] <;> rfl) | (simp [*, errW_none, errW_some] <;> rfl), by repeat (first | (with_reducible first | exact HI0.out | apply IsS74.alloc | apply IsS74.drewN | apply IsS74.drew | apply IsS74.set_0 | apply IsS74.set_1) | exact HI0.out), by repeat (first | (with_reducible first | exact HB.out | apply below_alloc | apply pw_below_drewN | apply below_drew1 | refine below_set ?_ (IsS74.ge HI0.out)) | exact HB.out), by repeat (first | (with_reducible first | exact HK.out | apply KeepBut.set_ | apply keep_drewN | apply keep_drew | apply keep_alloc) | exact HK.out)⟩
   ·rw [if_neg c7] at H
    (try rw [decide_eq_false c7] at H)
    have c7b0 : decide ((s0_0.size : Int) < a1) = false := decide_eq_false c7
    clear c7
    by_cases c9 : 0 ≤ a1
    ·rw [if_pos c9] at H
     (try rw [decide_eq_true c9] at H)
     have c9b0 := eq_true c9
     have c9b1 : decide (0 ≤ a1) = true := decide_eq_true c9
     clear c9
     by_cases c10 : a1 ≤ (s0_0.size : Int)
     ·rw [if_pos c10] at H
      (try rw [decide_eq_true c10] at H)
      have c10b0 := eq_true c10
      have c10b1 : decide (a1 ≤ (s0_0.size : Int)) = true := decide_eq_true c10
      clear c10
      have c11b0 := eq_true (of_decide_eq_true (by first | (with_reducible assumption) | assumption) : 0 ≤ a1)
      have c12b0 := eq_true (of_decide_eq_true (by first | (with_reducible assumption) | assumption) : a1 ≤ (s0_0.size : Int))
      simp only [Option.some.injEq, Prod.mk.injEq] at H
      obtain ⟨rfl, rfl, rfl⟩ := H
      obtain ⟨HGz13, hgz13⟩ := HI0.out
      have hcz13_0 := cellS74_0 HGz13
      have hcz13_1 := cellS74_1 HGz13
      have hfz13_0 := bF HGz13 0
      have hfz13_1 := bF HGz13 1
      clear HGz13 hgz13
      go_enter Tryd.func39, Tryd.ntmps39
      go_wp2
      go_ret
      exact ⟨by first | rfl | (simp [errW_none, errW_some] <;> rfl) | (simp [*, errW_none, errW_some] <;> rfl), by repeat (first | (with_reducible first | exact HI0.out | apply IsS74.alloc | apply IsS74.drewN | apply IsS74.drew | apply IsS74.set_0 | apply IsS74.set_1) | exact HI0.out), by repeat (first | (with_reducible first | exact HB.out | apply below_alloc | apply pw_below_drewN | apply below_drew1 | refine below_set ?_ (IsS74.ge HI0.out)) | exact HB.out), by repeat (first | (with_reducible first | exact HK.out | apply KeepBut.set_ | apply keep_drewN | apply keep_drew | apply keep_alloc) | exact HK.out)⟩
     ·rw [if_neg c10] at H
      (try rw [decide_eq_false c10] at H)
      exact absurd H (by simp)
    ·rw [if_neg c9] at H
     (try rw [decide_eq_false c9] at H)
     exact absurd H (by simp)
def le_Reader_Number.f (s0_0 : ByteArray) (s0_1 : Bool) (a1 : Int) : Option (Int × ByteArray × Bool) := if a1 > 8 then ((le_Reader_Text.f s0_0 s0_1 (-1)).bind fun bt112 => ((le_Get.f bt112.1).bind fun t115 => (some (t115, bt112.2.1, bt112.2.2)))) else ((le_Reader_Text.f s0_0 s0_1 a1).bind fun bt116 => ((le_Get.f bt116.1).bind fun t119 => (some (t119, bt116.2.1, bt116.2.2))))
set_option maxHeartbeats 8000000 in
set_option maxRecDepth 100000 in
theorem le_Reader_Number.calls (g : Nat) (s0_0 : ByteArray) (s0_1 : Bool) (a1 : Int) (r1 : Int) (r2 : ByteArray) (r3 : Bool) (w0 w : World) (hI : IsS74 w0 w g s0_0 s0_1) (hB : Below w0.heap.size w0 w) (h : le_Reader_Number.f s0_0 s0_1 a1 = some (r1, r2, r3)) :
  Calls Tryd.prog 40 #[.pointer (some ⟨g, 0, none⟩), .int .i64 a1] w fun e w' => e = .returned (.int .u64 r1) ∧ IsS74 w0 w' g r2 r3 ∧ Below w0.heap.size w0 w' ∧ KeepBut w w' g none := by
 have HI0 := Ax.mk hI
 have HK := Ax.mk (KeepBut.refl w g none)
 have HL := Ax.mk hB.size
 clear hI
 have HW0 := Ax.mk hB.size
 have HB := Ax.mk hB
 clear hB
 have H : (if a1 > 8 then ((le_Reader_Text.f s0_0 s0_1 (-1)).bind fun bt112 => ((le_Get.f bt112.1).bind fun t115 => (some (t115, bt112.2.1, bt112.2.2)))) else ((le_Reader_Text.f s0_0 s0_1 a1).bind fun bt116 => ((le_Get.f bt116.1).bind fun t119 => (some (t119, bt116.2.1, bt116.2.2))))) = some (r1, r2, r3) := h
 clear h
 by_cases c3 : a1 > 8
 ·rw [if_pos c3] at H
  have c3b0 : decide (8 < a1) = true := decide_eq_true c3
  clear c3
  replace H := Option.bind_eq_some_iff.mp H
  obtain ⟨⟨t112, t113, t114⟩, A40, H⟩ := H
  replace H : ((le_Get.f t112).bind fun t115 => (some (t115, t113, t114))) = some (r1, r2, r3) := H
  have A4 := Ax.mk A40
  clear A40
  replace H := Option.bind_eq_some_iff.mp H
  obtain ⟨t115, A50, H⟩ := H
  replace H : (some (t115, t113, t114)) = some (r1, r2, r3) := H
  have A5 := Ax.mk A50
  clear A50
  simp only [Option.some.injEq, Prod.mk.injEq] at H
  obtain ⟨rfl, rfl, rfl⟩ := H
  go_enter Tryd.func40, Tryd.ntmps40
  go_wp2_with (first | ((with_reducible refine gate_callee (f := 39) rfl ?_); refine goesL_ (some 9) rfl rfl Tryd.func39 (by kernel_rfl) rfl #[.pointer (some ⟨g, 0, none⟩), .int .i64 (-1)] rfl (by (try simp only [List.map_toArray, List.map_cons, List.map_nil]); first | done | rfl | (simp only [List.length_drop, List.length_take]; rfl) | (rw [wrap_sum2 (by assumption)]; rfl)) ?_; (with_reducible refine (le_Reader_Text.calls g s0_0 s0_1 (-1) t112 t113 t114 w0 _ ?side1 ?side2 A4.out).mono ?_); (case side1 => repeat (first | (with_reducible first | exact HI0.out | apply IsS74.alloc | apply IsS74.drewN | apply IsS74.drew | apply IsS74.set_0 | apply IsS74.set_1) | exact HI0.out)); (case side2 => repeat (first | (with_reducible first | exact HB.out | apply below_alloc | apply pw_below_drewN | apply below_drew1 | refine below_set ?_ (IsS74.ge HI0.out)) | exact HB.out)); rintro e w6 ⟨rfl, hi, hb, hk⟩; refine ⟨_, rfl, ?_⟩; have n0_ := Ax.mk (KeepBut.trans (by repeat (first | (with_reducible first | exact HK.out | apply KeepBut.set_ | apply keep_drewN | apply keep_drew | apply keep_alloc) | exact HK.out)) hk (.inl rfl)); have n1_ := Ax.mk (hb); have n2_ := Ax.mk (hi); clear HK; clear HB; clear HI0; have HK := n0_; have HB := n1_; have HI0 := n2_; clear n0_ n1_ n2_; (try clear hb); (try clear hb2); (try clear hk); (try clear hi)) | ((with_reducible refine gate_callee (f := 54) rfl ?_); refine goesL_ (some 10) rfl rfl Tryd.func54 (by kernel_rfl) rfl #[.string t112] rfl (by (try simp only [List.map_toArray, List.map_cons, List.map_nil]); first | done | rfl | (simp only [List.length_drop, List.length_take]; rfl) | (rw [wrap_sum2 (by assumption)]; rfl)) ?_; (with_reducible refine (le_Get.calls t112 t115 _ A5.out).mono ?_); rintro e w7 ⟨rfl, hb⟩; refine ⟨_, rfl, ?_⟩; have n0_ := Ax.mk (IsS74.below (by repeat (first | (with_reducible first | exact HI0.out | apply IsS74.alloc | apply IsS74.drewN | apply IsS74.drew | apply IsS74.set_0 | apply IsS74.set_1) | exact HI0.out)) hb); have n1_ := Ax.mk (KeepBut.trans (by repeat (first | (with_reducible first | exact HK.out | apply KeepBut.set_ | apply keep_drewN | apply keep_drew | apply keep_alloc) | exact HK.out)) (KeepBut.of_below hb g none) (.inl rfl)); have n2_ := Ax.mk (bP (by repeat (first | (with_reducible first | exact HB.out | apply below_alloc | apply pw_below_drewN | apply below_drew1 | refine below_set ?_ (IsS74.ge HI0.out)) | exact HB.out)) hb); clear HI0; clear HK; clear HB; have HI0 := n0_; have HK := n1_; have HB := n2_; clear n0_ n1_ n2_; (try clear hb); (try clear hb2); (try clear hk); (try clear hi)))
  go_ret
  exact ⟨by first | rfl | (simp [errW_none, errW_some] <;> rfl) | (simp [*, errW_none, errW_some] <;> rfl), by repeat (first | (with_reducible first | exact HI0.out | apply IsS74.alloc | apply IsS74.drewN | apply IsS74.drew | apply IsS74.set_0 | apply IsS74.set_1) | exact HI0.out), by repeat (first | (with_reducible first | exact HB.out | apply below_alloc | apply pw_below_drewN | apply below_drew1 | refine below_set ?_ (IsS74.ge HI0.out)) | exact HB.out), by repeat (first | (with_reducible first | exact HK.out | apply KeepBut.set_ | apply keep_drewN | apply keep_drew | apply keep_alloc) | exact HK.out)⟩
 ·rw [if_neg c3] at H
  have c3b0 : decide (8 < a1) = false := decide_eq_false c3
  clear c3
  replace H := Option.bind_eq_some_iff.mp H
  obtain ⟨⟨t116, t117, t118⟩, A80, H⟩ := H
  replace H : ((le_Get.f t116).bind fun t119 => (some (t119, t117, t118))) = some (r1, r2, r3) := H
  have A8 := Ax.mk A80
  clear A80
  replace H := Option.bind_eq_some_iff.mp H
  obtain ⟨t119, A90, H⟩ := H
  replace H : (some (t119, t117, t118)) = some (r1, r2, r3) := H
  have A9 := Ax.mk A90
  clear A90
  simp only [Option.some.injEq, Prod.mk.injEq] at H
  obtain ⟨rfl, rfl, rfl⟩ := H
  go_enter Tryd.func40, Tryd.ntmps40
  go_wp2_with (first | ((with_reducible refine gate_callee (f := 39) rfl ?_); refine goesL_ (some 9) rfl rfl Tryd.func39 (by kernel_rfl) rfl #[.pointer (some ⟨g, 0, none⟩), .int .i64 a1] rfl (by (try simp only [List.map_toArray, List.map_cons, List.map_nil]); first | done | rfl | (simp only [List.length_drop, List.length_take]; rfl) | (rw [wrap_sum2 (by assumption)]; rfl)) ?_; (with_reducible refine (le_Reader_Text.calls g s0_0 s0_1 a1 t116 t117 t118 w0 _ ?side1 ?side2 A8.out).mono ?_); (case side1 => repeat (first | (with_reducible first | exact HI0.out | apply IsS74.alloc | apply IsS74.drewN | apply IsS74.drew | apply IsS74.set_0 | apply IsS74.set_1) | exact HI0.out)); (case side2 => repeat (first | (with_reducible first | exact HB.out | apply below_alloc | apply pw_below_drewN | apply below_drew1 | refine below_set ?_ (IsS74.ge HI0.out)) | exact HB.out)); rintro e w10 ⟨rfl, hi, hb, hk⟩; refine ⟨_, rfl, ?_⟩; have n0_ := Ax.mk (KeepBut.trans (by repeat (first | (with_reducible first | exact HK.out | apply KeepBut.set_ | apply keep_drewN | apply keep_drew | apply keep_alloc) | exact HK.out)) hk (.inl rfl)); have n1_ := Ax.mk (hb); have n2_ := Ax.mk (hi); clear HK; clear HB; clear HI0; have HK := n0_; have HB := n1_; have HI0 := n2_; clear n0_ n1_ n2_; (try clear hb); (try clear hb2); (try clear hk); (try clear hi)) | ((with_reducible refine gate_callee (f := 54) rfl ?_); refine goesL_ (some 10) rfl rfl Tryd.func54 (by kernel_rfl) rfl #[.string t116] rfl (by (try simp only [List.map_toArray, List.map_cons, List.map_nil]); first | done | rfl | (simp only [List.length_drop, List.length_take]; rfl) | (rw [wrap_sum2 (by assumption)]; rfl)) ?_; (with_reducible refine (le_Get.calls t116 t119 _ A9.out).mono ?_); rintro e w11 ⟨rfl, hb⟩; refine ⟨_, rfl, ?_⟩; have n0_ := Ax.mk (IsS74.below (by repeat (first | (with_reducible first | exact HI0.out | apply IsS74.alloc | apply IsS74.drewN | apply IsS74.drew | apply IsS74.set_0 | apply IsS74.set_1) | exact HI0.out)) hb); have n1_ := Ax.mk (KeepBut.trans (by repeat (first | (with_reducible first | exact HK.out | apply KeepBut.set_ | apply keep_drewN | apply keep_drew | apply keep_alloc) | exact HK.out)) (KeepBut.of_below hb g none) (.inl rfl)); have n2_ := Ax.mk (bP (by repeat (first | (with_reducible first | exact HB.out | apply below_alloc | apply pw_below_drewN | apply below_drew1 | refine below_set ?_ (IsS74.ge HI0.out)) | exact HB.out)) hb); clear HI0; clear HK; clear HB; have HI0 := n0_; have HK := n1_; have HB := n2_; clear n0_ n1_ n2_; (try clear hb); (try clear hb2); (try clear hk); (try clear hi)))
  go_ret
  exact ⟨by first | rfl | (simp [errW_none, errW_some] <;> rfl) | (simp [*, errW_none, errW_some] <;> rfl), by repeat (first | (with_reducible first | exact HI0.out | apply IsS74.alloc | apply IsS74.drewN | apply IsS74.drew | apply IsS74.set_0 | apply IsS74.set_1) | exact HI0.out), by repeat (first | (with_reducible first | exact HB.out | apply below_alloc | apply pw_below_drewN | apply below_drew1 | refine below_set ?_ (IsS74.ge HI0.out)) | exact HB.out), by repeat (first | (with_reducible first | exact HK.out | apply KeepBut.set_ | apply keep_drewN | apply keep_drew | apply keep_alloc) | exact HK.out)⟩
def r2_Get.l0 : Nat → ByteArray → Int → Int → Option (Int)
 | 0, _, _, _ => none
 | k + 1, x0, x3, x4 => if x4 ≥ 0 then (if 0 ≤ x4 then (if x4 < (x0.size : Int) then (r2_Get.l0 k x0 (IntKind.u64.wrap ((IntKind.u64.wrap (x3 * 256)) + (IntKind.u64.wrap (bt x0 x4)))) (wrap64 (x4 - 1))) else (none)) else (none)) else (some x3)
def r2_Get.f (k : Nat) (a0 : ByteArray) : Option (Int) := r2_Get.l0 k a0 0 ((mn (a0.size : Int) 8) - 1)
theorem r2_Get.mono_l : ∀ k, (∀ y0 y1 y2, LeO (r2_Get.l0 k y0 y1 y2) (r2_Get.l0 (k + 1) y0 y1 y2))
 | 0 => fun _ _ _ r h => by simp [r2_Get.l0] at h
 | k + 1 => by
  have ih0 := r2_Get.mono_l k
  ·intro y0 y1 y2
   unfold r2_Get.l0
   repeat' first
   | (with_reducible exact ih0 _ _ _)
   | (with_reducible exact LeO.refl _)
   | (with_reducible exact LeO.none _)
   | (with_reducible refine LeO.ite ?_ ?_)
   | (with_reducible refine LeO.bind ?_ (fun _ => ?_))
   | exact ih0 _ _ _
   | exact LeO.none _
   | refine LeO.ite ?_ ?_
   | refine LeO.bind ?_ (fun _ => ?_)
theorem r2_Get.mono : ∀ a0 k, LeO (r2_Get.f k a0) (r2_Get.f (k + 1) a0) := by
 intro a0 k
 have ih0 := r2_Get.mono_l k
 unfold r2_Get.f
 repeat' first
   | (with_reducible exact ih0 _ _ _)
   | (with_reducible exact LeO.refl _)
   | (with_reducible exact LeO.none _)
   | (with_reducible refine LeO.ite ?_ ?_)
   | (with_reducible refine LeO.bind ?_ (fun _ => ?_))
   | exact ih0 _ _ _
   | exact LeO.none _
   | refine LeO.ite ?_ ?_
   | refine LeO.bind ?_ (fun _ => ?_)
def r3_Take.f (k : Nat) (a0 : ByteArray) : Option (ByteArray × Int) := if (a0.size : Int) < 4 then (some ((⟨#[]⟩ : ByteArray), 10)) else (if 0 ≤ (wrap64 ((a0.size : Int) - 4)) then (if (wrap64 ((a0.size : Int) - 4)) ≤ (a0.size : Int) then ((r3_Put.f k (a0.extract 0 ((wrap64 ((a0.size : Int) - 4)) : Int).toNat)).bind fun t242 => (if t242.toList = a0.toList then (some (a0.extract 0 ((wrap64 ((a0.size : Int) - 4)) : Int).toNat, 0)) else (some ((⟨#[]⟩ : ByteArray), 9)))) else (none)) else (none))
theorem r3_Take.mono : ∀ a0 k, LeO (r3_Take.f k a0) (r3_Take.f (k + 1) a0) := by
 intro a0 k
 unfold r3_Take.f
 repeat' first
   | (with_reducible exact r3_Put.mono _ _)
   | (with_reducible exact LeO.refl _)
   | (with_reducible exact LeO.none _)
   | (with_reducible refine LeO.ite ?_ ?_)
   | (with_reducible refine LeO.bind ?_ (fun _ => ?_))
   | exact r3_Put.mono _ _
   | exact LeO.none _
   | refine LeO.ite ?_ ?_
   | refine LeO.bind ?_ (fun _ => ?_)
end Go.Proofs.YtcgejogmiglalaaDoor.Fn
end
section
namespace Go.Proofs.YtcgejogmiglalaaDoor.Fn
open Go.RowKit Go.Proofs.YtcgejogmiglalaaDoorW.PrintWords Go.Proofs.YtcgejogmiglalaaDoorW.PrintLast Go.Proofs.YtcgejogmiglalaaDoorW.PrintMore Go.Proofs.YtcgejogmiglalaaDoor.Lf
open List (setIfInBounds_toArray set_cons_zero set_cons_succ)
attribute [local go_sem] max2_int min2_int max_two min_two max_three min_three max_four min_four   -- for this text's walks alone
set_option linter.unusedVariables false
set_option linter.unusedSimpArgs false
def head_Take.l : Nat → ByteArray → Bool → List S53 → Option (List S53 × ByteArray × Bool)
 | 0, left, bad, acc => some (acc, left, bad)
 | n + 1, left, bad, acc => (le_Reader_Number.f left bad 2).bind fun a => (le_Reader_Number.f a.2.1 a.2.2 2).bind fun b => head_Take.l n b.2.1 b.2.2 (acc ++ [⟨wrap64 a.1, wrap64 b.1⟩])
def head_Take.m (k : Nat) (nm : ByteArray) (g sc sz : Int) (l : List S53) (left : ByteArray) (bad : Bool) : Option (Int × Int × Int × List S53 × Int) :=
 if bad = true then some (0, 0, 0, [], 2) else if nm.toList = [114, 116, 99, 108] then (if (Lib.trimB left.data.toList 0) = [] then (head_Right.f k g sc sz l).bind fun ok => if ok = true then some (g, sc, sz, l, 0) else some (0, 0, 0, [], 2) else some (0, 0, 0, [], 2)) else some (0, 0, 0, [], 2)
def head_Take.f (k : Nat) (s : ByteArray) : Option (Int × Int × Int × List S53 × Int) :=
 if s.size = 64 then (seal_Take.f s).bind fun t => if t.2 = 0 then
  (le_Reader_Text.f t.1 false 4).bind fun nm => (le_Reader_Number.f nm.2.1 nm.2.2 8).bind fun g => (le_Reader_Number.f g.2.1 g.2.2 2).bind fun sc => (le_Reader_Number.f sc.2.1 sc.2.2 4).bind fun sz => (le_Reader_Number.f sz.2.1 sz.2.2 1).bind fun mn =>
   if 0 ≤ mn.1 ∧ mn.1 < 256 ∧ mn.2.1.size ≤ 1000 then (head_Take.l mn.1.toNat mn.2.1 mn.2.2 []).bind fun lp => if lp.2.1.size ≤ 1000 then head_Take.m k nm.1 g.1 (wrap64 sc.1) (wrap64 sz.1) lp.1 lp.2.1 lp.2.2 else none else none
  else some (0, 0, 0, [], t.2) else some (0, 0, 0, [], 1)
theorem head_Take.mono : ∀ a0 k, LeO (head_Take.f k a0) (head_Take.f (k + 1) a0) := by
 intro a0 k
 have hm : ∀ nm g sc sz l left bad, LeO (head_Take.m k nm g sc sz l left bad) (head_Take.m (k + 1) nm g sc sz l left bad) := fun nm g sc sz l left bad => by
  unfold head_Take.m
  exact LeO.ite (LeO.refl _) (LeO.ite (LeO.ite (LeO.bind (head_Right.mono _ _ _ _ k) (fun _ => LeO.refl _)) (LeO.refl _)) (LeO.refl _))
 unfold head_Take.f
 refine LeO.ite (LeO.bind (LeO.refl _) (fun _ => LeO.ite (LeO.bind (LeO.refl _) (fun _ => LeO.bind (LeO.refl _) (fun _ => LeO.bind (LeO.refl _) (fun _ => LeO.bind (LeO.refl _) (fun _ => LeO.bind (LeO.refl _) (fun _ => LeO.ite (LeO.bind (LeO.refl _) (fun _ => LeO.ite (hm _ _ _ _ _ _ _) (LeO.refl _))) (LeO.refl _))))))) (LeO.refl _))) (LeO.refl _)
theorem ht_keep {w w1 : World} {g k : Nat} {o : Obj} (hk : KeepBut w w1 g none) (h : w.heap[k]? = some o) (hne : k ≠ g) : w1.heap[k]? = some o := by
 have hlt : k < w.heap.size := (Array.getElem?_eq_some_iff.1 h).1
 rw [hk.2 k hlt hne (by simp)]; exact h
def HtH (w : World) (g sc sz : Int) (v : Value) (er : Int) (W : World) : Prop :=
 W.heap[w.heap.size]? = some (.cells #[.int .u64 g, .int .i64 sc, .int .i64 sz, v] 25 (0, 0)) ∧ W.heap[w.heap.size + 1]? = some (.cells #[.int .i64 er] 27 (0, 0))
def HtR (w : World) (r1 r2 r3 : Int) (r4 : List S53) (r5 : Int) : Ending → World → Prop := fun e w' => ∃ v1_ : Value, e = .returned (.tuple #[.agg #[.int .u64 r1, .int .i64 r2, .int .i64 r3, v1_], .int .i64 r5]) ∧ Kd.R k53 53 w' w.heap.size (fun _ => True) v1_ r4 ∧ Below w.heap.size w w'
theorem ht_results {w W : World} {tmps : Array Value} {g sc sz er : Int} {v : Value} (h2 : tmps.getD 2 undef = .pointer (some ⟨w.heap.size, 0, none⟩)) (h3 : tmps.getD 3 undef = .pointer (some ⟨w.heap.size + 1, 0, none⟩)) (hH : HtH w g sc sz v er W) :
  (results Tryd.f16 tmps).run Tryd.prog W = .ok (.tuple #[.agg #[.int .u64 g, .int .i64 sc, .int .i64 sz, v], .int .i64 er]) W := by
 have h2' : tmps[2]?.getD undef = .pointer (some ⟨w.heap.size, 0, none⟩) := by simpa using h2
 have h3' : tmps[3]?.getD undef = .pointer (some ⟨w.heap.size + 1, 0, none⟩) := by simpa using h3
 have c0 : W.cell? ⟨w.heap.size, 0, none⟩ = some (.int .u64 g) := (bC hH.1 0).trans rfl
 have c1 : W.cell? ⟨w.heap.size, 1, none⟩ = some (.int .i64 sc) := (bC hH.1 1).trans rfl
 have c2 : W.cell? ⟨w.heap.size, 2, none⟩ = some (.int .i64 sz) := (bC hH.1 2).trans rfl
 have c3 : W.cell? ⟨w.heap.size, 3, none⟩ = some v := (bC hH.1 3).trans rfl
 have hc : W.cell? ⟨w.heap.size + 1, 0, none⟩ = some (.int .i64 er) := (bC hH.2 0).trans rfl
 simp [results, Tryd.results16, h2', h3', asAddr, c0, c1, c2, c3, hc, go_sem]
theorem ht_facts {w W : World} {g sc sz er : Int} {v : Value} (hH : HtH w g sc sz v er W) : (W.cell? ⟨w.heap.size, 0, none⟩ = some (.int .u64 g) ∧ W.cell? ⟨w.heap.size, 1, none⟩ = some (.int .i64 sc) ∧ W.cell? ⟨w.heap.size, 2, none⟩ = some (.int .i64 sz) ∧ W.cell? ⟨w.heap.size, 3, none⟩ = some v ∧ W.cell? ⟨w.heap.size + 1, 0, none⟩ = some (.int .i64 er)) ∧
  (W.frozen? ⟨w.heap.size, 0, none⟩ = false ∧ W.frozen? ⟨w.heap.size, 1, none⟩ = false ∧ W.frozen? ⟨w.heap.size, 2, none⟩ = false ∧ W.frozen? ⟨w.heap.size, 3, none⟩ = false ∧ W.frozen? ⟨w.heap.size + 1, 0, none⟩ = false) :=
 ⟨⟨(bC hH.1 0).trans rfl, (bC hH.1 1).trans rfl, (bC hH.1 2).trans rfl, (bC hH.1 3).trans rfl, (bC hH.2 0).trans rfl⟩, ⟨bF hH.1 0, bF hH.1 1, bF hH.1 2, bF hH.1 3, bF hH.2 0⟩⟩
theorem ht_below {w W W' : World} {g sc sz er : Int} {v : Value} (hH : HtH w g sc sz v er W) (hb : Below W.heap.size W W') : HtH w g sc sz v er W' := ⟨bB hH.1 hb, bB hH.2 hb⟩
theorem ht_start (w : World) : HtH w 0 0 0 (.slice none 0 0) 0 ((w.alloc (.cells #[.int .u64 0, .int .i64 0, .int .i64 0, .slice none 0 0] 25)).alloc (.cells #[.int .i64 0] 27)) :=
 ⟨blk_alloc (heap_alloc_new w _) _, by have h := heap_alloc_new (w.alloc (.cells #[.int .u64 0, .int .i64 0, .int .i64 0, .slice none 0 0] 25)) (.cells #[.int .i64 0] 27); rwa [World.size_alloc] at h⟩
theorem ht_drew {w W : World} {g sc sz er : Int} {v : Value} (hH : HtH w g sc sz v er W) : HtH w g sc sz v er W.drew := ⟨hH.1, hH.2⟩
theorem ht_err {w W : World} {g sc sz er : Int} {v : Value} (hH : HtH w g sc sz v er W) (er' : Int) : HtH w g sc sz v er' (W.setCell ⟨w.heap.size + 1, 0, none⟩ (.int .i64 er')) :=
 ⟨bR (p := ⟨w.heap.size + 1, 0, none⟩) hH.1 (show w.heap.size ≠ w.heap.size + 1 by omega) _, bU (cs := #[.int .i64 er]) hH.2 0 _ rfl⟩
theorem ht_head {w W : World} {g sc sz er : Int} {v : Value} (hH : HtH w g sc sz v er W) (g' sc' sz' : Int) (v' : Value) :
  HtH w g' sc' sz' v' er ((((W.setCell ⟨w.heap.size, 0, none⟩ (.int .u64 g')).setCell ⟨w.heap.size, 1, none⟩ (.int .i64 sc')).setCell ⟨w.heap.size, 2, none⟩ (.int .i64 sz')).setCell ⟨w.heap.size, 3, none⟩ v') := by
 refine ⟨?_, ?_⟩
 ·exact bU (cs := #[.int .u64 g', .int .i64 sc', .int .i64 sz', v]) (bU (cs := #[.int .u64 g', .int .i64 sc', .int .i64 sz, v]) (bU (cs := #[.int .u64 g', .int .i64 sc, .int .i64 sz, v]) (bU (cs := #[.int .u64 g, .int .i64 sc, .int .i64 sz, v]) hH.1 0 _ rfl) 1 _ rfl) 2 _ rfl) 3 _ rfl
 ·have hne : w.heap.size + 1 ≠ w.heap.size := by omega
  exact bR (p := ⟨w.heap.size, 3, none⟩) (bR (p := ⟨w.heap.size, 2, none⟩) (bR (p := ⟨w.heap.size, 1, none⟩) (bR (p := ⟨w.heap.size, 0, none⟩) hH.2 hne _) hne _) hne _) hne _
theorem ht_headB {w W : World} {g sc sz : Int} {v : Value} (hB : Below w.heap.size w W) : Below w.heap.size w ((((W.setCell ⟨w.heap.size, 0, none⟩ (.int .u64 g)).setCell ⟨w.heap.size, 1, none⟩ (.int .i64 sc)).setCell ⟨w.heap.size, 2, none⟩ (.int .i64 sz)).setCell ⟨w.heap.size, 3, none⟩ v) :=
 below_set (below_set (below_set (below_set hB (Nat.le_refl _)) (Nat.le_refl _)) (Nat.le_refl _)) (Nat.le_refl _)
set_option maxHeartbeats 8000000 in
set_option maxRecDepth 100000 in
theorem head_Take.size (s : ByteArray) (w : World) (h : s.size ≠ 64) : Calls Tryd.prog 16 #[.string s] w (HtR w 0 0 0 [] 1) := by
 have c1 : ((s.size : Int) == 64) = false := beq_eq_false_iff_ne.mpr (by omega)
 have c2 : ((s.size : Int) != 64) = true := bne_iff_ne.mpr (by omega)
 clear h
 go_enter_defers Tryd.func16, Tryd.ntmps16
 go_wp2
 have hH : HtH w 0 0 0 (.slice none 0 0) 1 ((w.alloc (.cells #[.int .u64 0, .int .i64 0, .int .i64 0, .slice none 0 0] 25)).alloc (.cells #[.int .i64 1] 27)) :=
  ⟨blk_alloc (heap_alloc_new w _) _, by have h := heap_alloc_new (w.alloc (.cells #[.int .u64 0, .int .i64 0, .int .i64 0, .slice none 0 0] 25)) (.cells #[.int .i64 1] 27); rwa [World.size_alloc] at h⟩
 exact ⟨_, ht_results rfl rfl hH, _, rfl, Kd.R_nil _ _ _ _ _, below_alloc (below_alloc (Below.refl _ _) _) _⟩
set_option maxHeartbeats 8000000 in
set_option maxRecDepth 100000 in
theorem head_Take.seal (s t : ByteArray) (er : Int) (w : World) (h : s.size = 64) (ht : seal_Take.f s = some (t, er)) (he : er ≠ 0) : Calls Tryd.prog 16 #[.string s] w (HtR w 0 0 0 [] er) := by
 have c1 : ((s.size : Int) == 64) = true := beq_iff_eq.mpr (by omega)
 have c2 : ((s.size : Int) != 64) = false := bne_eq_false_iff_eq.mpr (by omega)
 have c3 : (er == 0) = false := beq_eq_false_iff_ne.mpr he
 have c4 : (er != 0) = true := bne_iff_ne.mpr he
 have HT := Ax.mk ht
 have hH0 := ht_start w
 have hB0 := below_alloc (below_alloc (Below.refl w.heap.size w) (.cells #[.int .u64 0, .int .i64 0, .int .i64 0, .slice none 0 0] 25)) (.cells #[.int .i64 0] 27)
 have HH0 := Ax.mk hH0
 have HB0 := Ax.mk hB0
 clear h ht he hH0 hB0
 go_enter_defers Tryd.func16, Tryd.ntmps16
 go_wp2_with (first | (go_at_call 37; fail))
 refine (seal_Take.calls s t er _ HT.out).mono ?_
 rintro e W1 ⟨rfl, hb1⟩
 have hH1 := ht_below HH0.out hb1
 have HH1 := Ax.mk hH1
 have HB1 := Ax.mk (bP HB0.out hb1)
 obtain ⟨⟨h0, h1, h2, h3, h4⟩, f0, f1, f2, f3, f4⟩ := ht_facts hH1
 clear hH1 hb1
 go_wp2
 go_region
 all_goals go_wp2
 all_goals exact ⟨_, ht_results rfl rfl (ht_drew (ht_err (ht_head (ht_err HH1.out er) 0 0 0 (.slice none 0 0)) er)), _, rfl, Kd.R_nil _ _ _ _ _, below_drew1 (below_set (ht_headB (below_set HB1.out (Nat.le_succ _))) (Nat.le_succ _))⟩
set_option maxHeartbeats 4000000 in
set_option maxRecDepth 100000 in
theorem head_Take.doorOk (w W : World) (g sc sz : Int) (v : Value) (hH : HtH w g sc sz v 0 W) : CallsD Tryd.prog 38 #[.pointer (some ⟨w.heap.size + 1, 0, none⟩), .pointer (some ⟨w.heap.size, 0, none⟩)] .returning W fun e u' w' => u' = .returning ∧ e = .returned (.tuple #[]) ∧ W = w' := by
 obtain ⟨⟨h0, h1, h2, h3, h4⟩, f0, f1, f2, f3, f4⟩ := ht_facts hH
 clear hH h0 h1 h2 h3 f0 f1 f2 f3 f4
 go_enter_d Tryd.func38, Tryd.ntmps38
 go_wp2
 go_end0
 exact ⟨rfl, rfl⟩
set_option maxHeartbeats 4000000 in
set_option maxRecDepth 100000 in
theorem head_Take.doorNo (w W : World) (g sc sz er : Int) (v : Value) (he : er ≠ 0) (hH : HtH w g sc sz v er W) : CallsD Tryd.prog 38 #[.pointer (some ⟨w.heap.size + 1, 0, none⟩), .pointer (some ⟨w.heap.size, 0, none⟩)] .returning W fun e u' w' => u' = .returning ∧ e = .returned (.tuple #[]) ∧
  w' = (((W.setCell ⟨w.heap.size, 0, none⟩ (.int .u64 0)).setCell ⟨w.heap.size, 1, none⟩ (.int .i64 0)).setCell ⟨w.heap.size, 2, none⟩ (.int .i64 0)).setCell ⟨w.heap.size, 3, none⟩ (.slice none 0 0) := by
 obtain ⟨⟨h0, h1, h2, h3, h4⟩, f0, f1, f2, f3, f4⟩ := ht_facts hH
 have c3 : (er == 0) = false := beq_eq_false_iff_ne.mpr he
 have c4 : (er != 0) = true := bne_iff_ne.mpr he
 clear hH he
 go_enter_d Tryd.func38, Tryd.ntmps38
 go_wp2
 go_end0
 exact ⟨rfl, rfl⟩
theorem ht_doorOk {w W : World} {tmps : Array Value} {g sc sz : Int} {v : Value} {l : List S53} {ok : Nat → Prop} (h2 : tmps.getD 2 undef = .pointer (some ⟨w.heap.size, 0, none⟩)) (h3 : tmps.getD 3 undef = .pointer (some ⟨w.heap.size + 1, 0, none⟩)) (hH : HtH w g sc sz v 0 W)
  (hR : Kd.R k53 53 W w.heap.size ok v l) (hB : Below w.heap.size w W) :
  Leaves Tryd.prog Tryd.f16 tmps (HtR w g sc sz l 0) [{ target := .fn (.func 38) #[.pointer (some ⟨w.heap.size + 1, 0, none⟩), .pointer (some ⟨w.heap.size, 0, none⟩)], args := #[] }] .returning W := by
 refine leaves_cons (f := 38) (args := #[.pointer (some ⟨w.heap.size + 1, 0, none⟩), .pointer (some ⟨w.heap.size, 0, none⟩)]) (by simp) (by simp [go_sem]) ?_
 refine (head_Take.doorOk w W g sc sz v hH).mono ?_
 rintro e u' w' ⟨rfl, rfl, rfl⟩
 exact ⟨_, ht_results h2 h3 hH, _, rfl, Kd.R_mono hR (fun _ _ => trivial), hB⟩
theorem ht_doorNo {w W : World} {tmps : Array Value} {g sc sz er : Int} {v : Value} (he : er ≠ 0) (h2 : tmps.getD 2 undef = .pointer (some ⟨w.heap.size, 0, none⟩)) (h3 : tmps.getD 3 undef = .pointer (some ⟨w.heap.size + 1, 0, none⟩)) (hH : HtH w g sc sz v er W)
  (hB : Below w.heap.size w W) :
  Leaves Tryd.prog Tryd.f16 tmps (HtR w 0 0 0 [] er) [{ target := .fn (.func 38) #[.pointer (some ⟨w.heap.size + 1, 0, none⟩), .pointer (some ⟨w.heap.size, 0, none⟩)], args := #[] }] .returning W := by
 refine leaves_cons (f := 38) (args := #[.pointer (some ⟨w.heap.size + 1, 0, none⟩), .pointer (some ⟨w.heap.size, 0, none⟩)]) (by simp) (by simp [go_sem]) ?_
 refine (head_Take.doorNo w W g sc sz er v he hH).mono ?_
 rintro e u' w' ⟨rfl, rfl, rfl⟩
 exact ⟨_, ht_results h2 h3 (ht_head hH 0 0 0 (.slice none 0 0)), _, rfl, Kd.R_nil _ _ _ _ _, ht_headB hB⟩
theorem ht_keepH {w W W' : World} {g sc sz er : Int} {v : Value} {G : Nat} (hH : HtH w g sc sz v er W) (hk : KeepBut W W' G none) (hG : w.heap.size + 1 < G) : HtH w g sc sz v er W' := ⟨ht_keep hk hH.1 (by omega), ht_keep hk hH.2 (by omega)⟩
theorem ht_span {w W : World} {g sc sz er : Int} {v : Value} (hH : HtH w g sc sz v er W) (v' : Value) : HtH w g sc sz v' er (W.setCell ⟨w.heap.size, 3, none⟩ v') :=
 ⟨bU (cs := #[.int .u64 g, .int .i64 sc, .int .i64 sz, v]) hH.1 3 _ rfl, bR (p := ⟨w.heap.size, 3, none⟩) hH.2 (show w.heap.size + 1 ≠ w.heap.size by omega) _⟩
theorem ht_headR {w W : World} {g sc sz er : Int} {v u : Value} {l : List S53} (hR : Kd.R k53 53 W w.heap.size (fun _ => True) u l) (hH : HtH w g sc sz v er W) (v0 v1 v2 v3 v4 : Value) :
  Kd.R k53 53 (((((W.setCell ⟨w.heap.size, 0, none⟩ v0).setCell ⟨w.heap.size, 1, none⟩ v1).setCell ⟨w.heap.size, 2, none⟩ v2).setCell ⟨w.heap.size, 3, none⟩ v3).setCell ⟨w.heap.size + 1, 0, none⟩ v4) w.heap.size (fun _ => True) u l :=
 Kd.R_mono (Kd.R_far (p := ⟨w.heap.size + 1, 0, none⟩) (Kd.R_far (p := ⟨w.heap.size, 3, none⟩) (Kd.R_far (p := ⟨w.heap.size, 2, none⟩) (Kd.R_far (p := ⟨w.heap.size, 1, none⟩) (Kd.R_far (p := ⟨w.heap.size, 0, none⟩) (Kd.R_types (Kd.R_types hR hH.1 (by decide)) hH.2 (by decide)) (fun _ hk => hk.1.2) v0) (fun _ hk => hk.1.2) v1) (fun _ hk => hk.1.2) v2) (fun _ hk => hk.1.2) v3) (fun _ hk => hk.2) v4) (fun _ _ => trivial)
theorem ht_headJ {w W : World} {G : Nat} {l : ByteArray} {b : Bool} (h : IsS74 w W G l b) (hne : G ≠ w.heap.size) (g sc sz : Int) (v : Value) :
  IsS74 w ((((W.setCell ⟨w.heap.size, 0, none⟩ (.int .u64 g)).setCell ⟨w.heap.size, 1, none⟩ (.int .i64 sc)).setCell ⟨w.heap.size, 2, none⟩ (.int .i64 sz)).setCell ⟨w.heap.size, 3, none⟩ v) G l b :=
 ⟨bR (p := ⟨w.heap.size, 3, none⟩) (bR (p := ⟨w.heap.size, 2, none⟩) (bR (p := ⟨w.heap.size, 1, none⟩) (bR (p := ⟨w.heap.size, 0, none⟩) h.1 hne _) hne _) hne _) hne _, h.2⟩
theorem ht_keepR {w W W' : World} {v : Value} {l : List S53} {G : Nat} {f0 : ByteArray} {f1 : Bool} (hR : Kd.R k53 53 W w.heap.size (fun _ => True) v l) (hJ : IsS74 w W G f0 f1) (hk : KeepBut W W' G none) : Kd.R k53 53 W' w.heap.size (fun _ => True) v l :=
 Kd.R_mono (Kd.R_keep (hJ.apart hR (by decide)) hk (fun _ hk => hk.2)) (fun _ _ => trivial)
set_option maxHeartbeats 16000000 in
set_option maxRecDepth 100000 in
theorem head_Take.main (k : Nat) (s t nm l1 : ByteArray) (b1 : Bool) (g : Int) (l2 : ByteArray) (b2 : Bool) (sc : Int) (l3 : ByteArray) (b3 : Bool) (sz : Int) (l4 : ByteArray) (b4 : Bool) (mn : Nat) (l5 : ByteArray) (b5 : Bool) (ls : List S53) (l6 : ByteArray) (b6 : Bool) (r1 r2 r3 : Int) (r4 : List S53) (r5 : Int) (w : World) (h : s.size = 64) (ht : seal_Take.f s = some (t, 0))
  (a1 : le_Reader_Text.f t false 4 = some (nm, l1, b1)) (a2 : le_Reader_Number.f l1 b1 8 = some (g, l2, b2)) (a3 : le_Reader_Number.f l2 b2 2 = some (sc, l3, b3)) (a4 : le_Reader_Number.f l3 b3 4 = some (sz, l4, b4)) (a5 : le_Reader_Number.f l4 b4 1 = some ((mn : Int), l5, b5))
  (hmn : mn < 256) (a6 : head_Take.l mn l5 b5 [] = some (ls, l6, b6)) (hl6 : l6.size ≤ 1000) (a7 : head_Take.m k nm g (wrap64 sc) (wrap64 sz) ls l6 b6 = some (r1, r2, r3, r4, r5)) : Calls Tryd.prog 16 #[.string s] w (HtR w r1 r2 r3 r4 r5) := by
 have c1 : ((s.size : Int) == 64) = true := beq_iff_eq.mpr (by omega)
 have c2 : ((s.size : Int) != 64) = false := bne_eq_false_iff_eq.mpr (by omega)
 have HT := Ax.mk ht
 have A1 := Ax.mk a1
 have A2 := Ax.mk a2
 have A3 := Ax.mk a3
 have A4 := Ax.mk a4
 have A5 := Ax.mk a5
 have A6 := Ax.mk a6
 have A7 := Ax.mk a7
 have HMN := Ax.mk hmn
 have HL6 := Ax.mk hl6
 have hH0 := ht_start w
 have hB0 := below_alloc (below_alloc (Below.refl w.heap.size w) (.cells #[.int .u64 0, .int .i64 0, .int .i64 0, .slice none 0 0] 25)) (.cells #[.int .i64 0] 27)
 have HH0 := Ax.mk hH0
 have HB0 := Ax.mk hB0
 clear h ht hH0 hB0 a1 a2 a3 a4 a5 a6 a7 hmn hl6
 have hmf : ∀ (fn : Fn) (first cap : Array Value) (w : World), (Instr.makeFunc fn first cap).run Tryd.prog w = .ok (.func fn first cap) w := fun _ _ _ _ => rfl
 go_enter_defers Tryd.func16, Tryd.ntmps16
 go_wp2_with (first | (go_at_call 37; fail))
 refine (seal_Take.calls s t 0 _ HT.out).mono ?_
 rintro e W1 ⟨rfl, hb1⟩
 have hH1 := ht_below HH0.out hb1
 have HH1 := Ax.mk (ht_err hH1 0)
 have HB1 := Ax.mk (show Below w.heap.size w (W1.setCell ⟨w.heap.size + 1, 0, none⟩ (.int .i64 0)) from below_set (bP HB0.out hb1) (Nat.le_succ _))
 obtain ⟨⟨h0, h1, h2, h3, h4⟩, f0, f1, f2, f3, f4⟩ := ht_facts hH1
 have HGL := Ax.mk (show w.heap.size + 1 < W1.heap.size from (Array.getElem?_eq_some_iff.1 hH1.2).1)
 clear hH1 hb1
 go_wp2_with (first | (go_at_call 39; fail))
 clear h0 h1 h2 h3 h4 f0 f1 f2 f3 f4
 have J0 := IsS74.new w (W1.setCell ⟨w.heap.size + 1, 0, none⟩ (.int .i64 0)) t false HB1.out
 rw [show (W1.setCell ⟨w.heap.size + 1, 0, none⟩ (.int .i64 0)).heap.size = W1.heap.size by simp] at J0
 have D0 := below_alloc HB1.out (.cells #[.string t, .bool false] 74)
 have X0 := ht_below HH1.out (below_alloc (Below.refl _ _) (.cells #[.string t, .bool false] 74))
 have hGL := HGL.out
 clear HGL
 generalize (W1.setCell ⟨w.heap.size + 1, 0, none⟩ (.int .i64 0)).alloc (.cells #[.string t, .bool false] 74) = v0 at J0 D0 X0 ⊢
 generalize W1.heap.size = G at J0 hGL ⊢
 have HGL := Ax.mk hGL
 clear hGL HH1 HB1 HH0 HB0
 refine (le_Reader_Text.calls G t false 4 nm l1 b1 w _ J0 D0 A1.out).mono ?_
 rintro e v1 ⟨rfl, hJ, hD, hK⟩
 have J1 := Ax.mk hJ
 have D1 := Ax.mk hD
 have X1 := Ax.mk (ht_keepH X0 hK HGL.out)
 clear hJ hD hK J0 D0 X0
 go_wp2_with (first | (go_at_call 40; fail))
 refine (le_Reader_Number.calls G l1 b1 8 g l2 b2 w _ J1.out D1.out A2.out).mono ?_
 rintro e v2 ⟨rfl, hJ, hD, hK⟩
 have J2 := Ax.mk hJ
 have D2 := Ax.mk hD
 have X2 := Ax.mk (ht_keepH X1.out hK HGL.out)
 clear hJ hD hK J1 D1 X1
 go_wp2_with (first | (go_at_call 40; fail))
 refine (le_Reader_Number.calls G l2 b2 2 sc l3 b3 w _ J2.out D2.out A3.out).mono ?_
 rintro e v3 ⟨rfl, hJ, hD, hK⟩
 have J3 := Ax.mk hJ
 have D3 := Ax.mk hD
 have X3 := Ax.mk (ht_keepH X2.out hK HGL.out)
 clear hJ hD hK J2 D2 X2
 go_wp2_with (first | (go_at_call 40; fail))
 refine (le_Reader_Number.calls G l3 b3 4 sz l4 b4 w _ J3.out D3.out A4.out).mono ?_
 rintro e v4 ⟨rfl, hJ, hD, hK⟩
 have J4 := Ax.mk hJ
 have D4 := Ax.mk hD
 have hX4 := ht_keepH X3.out hK HGL.out
 obtain ⟨⟨h0, h1, h2, h3, h4⟩, f0, f1, f2, f3, f4⟩ := ht_facts hX4
 have X4 := Ax.mk hX4
 clear hJ hD hK hX4 J3 D3 X3
 go_wp2_with (first | (go_at_call 40; fail))
 clear h0 h1 h2 h3 h4 f0 f1 f2 f3 f4
 have X5 := ht_head X4.out g (wrap64 sc) (wrap64 sz) (.slice none 0 0)
 have D5 := ht_headB (g := g) (sc := wrap64 sc) (sz := wrap64 sz) (v := .slice none 0 0) D4.out
 have hne : G ≠ w.heap.size := by have := HGL.out; omega
 have J5 := ht_headJ J4.out hne g (wrap64 sc) (wrap64 sz) (.slice none 0 0)
 clear J4 D4 X4 hne
 generalize (((v4.setCell ⟨w.heap.size, 0, none⟩ (.int .u64 g)).setCell ⟨w.heap.size, 1, none⟩ (.int .i64 (wrap64 sc))).setCell ⟨w.heap.size, 2, none⟩ (.int .i64 (wrap64 sz))).setCell ⟨w.heap.size, 3, none⟩ (.slice none 0 0) = v5 at X5 D5 J5 ⊢
 generalize wrap64 sc = sc1 at X5 A7 ⊢
 generalize wrap64 sz = sz1 at X5 A7 ⊢
 refine (le_Reader_Number.calls G l4 b4 1 (mn : Int) l5 b5 w _ J5 D5 A5.out).mono ?_
 rintro e v6 ⟨rfl, hJ, hD, hK⟩
 have J6 := Ax.mk hJ
 have D6 := Ax.mk hD
 have X6 := Ax.mk (ht_keepH X5 hK HGL.out)
 clear hJ hD hK J5 D5 X5
 go_wp2
 go_loopw [37] (fun v37 wr => ∃ (j : Nat) (acc : List S53) (left : ByteArray) (bad : Bool) (v : Value), v37 = .int .u64 (j : Int) ∧ j ≤ mn ∧ Ax (head_Take.l (mn - j) left bad acc = some (ls, l6, b6)) ∧ Ax (acc.length = j) ∧ Ax (IsS74 w wr G left bad) ∧ Ax (Below w.heap.size w wr) ∧ Ax (HtH w g sc1 sz1 v 0 wr) ∧ Ax (Kd.R k53 53 wr w.heap.size (fun _ => True) v acc)) (fun v37 _ => mn - (intOf v37).toNat)
 case atStart => exact ⟨0, [], l5, b5, .slice none 0 0, rfl, Nat.zero_le _, A6, ⟨rfl⟩, J6, D6, X6, ⟨Kd.R_nil _ _ _ _ _⟩⟩
 case round =>
 clear J6 D6 X6 A6
 obtain ⟨j, acc, left, bad, v, rfl, hj, HG, HAL, J, B, H, R⟩ := hrel
 by_cases hlt : j < mn
 ·have HLT := Ax.mk hlt
  have hG := HG.out
  rw [show mn - j = (mn - (j + 1)) + 1 by omega, head_Take.l] at hG
  clear HG
  replace hG := Option.bind_eq_some_iff.1 hG
  obtain ⟨⟨x1, q1, d1⟩, hp1, hG⟩ := hG
  replace hG := Option.bind_eq_some_iff.1 hG
  obtain ⟨⟨x2, q2, d2⟩, hp2, hG⟩ := hG
  have P1 := Ax.mk hp1
  have P2 := Ax.mk hp2
  have HG := Ax.mk hG
  have hjb : j ≤ 1000 := by have := HMN.out; omega
  clear hp1 hp2 hG
  obtain ⟨⟨_, _, _, hv3, _⟩, _⟩ := ht_facts H.out
  go_wp2
  refine wp_region_noPanic ?_
  refine start_ (n := 13) (S := fun w' => w'.cell? ⟨w.heap.size, 3, none⟩ = some v) (ds := [12]) #[false, false, false, false, false, false, false, false, false, false, false, false, false] (by kernel_rfl) rfl rfl hv3 (fun hHeld => ?_)
  refine pure_ (i := 0) (N := some 39) (v := ?_) (a' := ?_) #[true, false, false, false, false, false, false, false, false, false, false, false, false] rfl rfl (by kernel_rfl) (fun _ _ _ h => h) (Or.inl ⟨by rfl, ?_⟩) ?_ ?_
  rotate_left
  ·intro w'
   go_simp
   with_reducible rfl
  rotate_left
  ·simp only [Act.put, setIfInBounds_toArray, set_cons_zero, set_cons_succ, i64_w, i32_w]
   rfl
  refine take_ (i := 1) (N := some 40) (v := ?_) (a' := ?_) #[true, true, false, false, false, false, false, false, false, false, false, false, false] rfl rfl (by kernel_rfl) (fun _ _ _ h => h) (Or.inl ⟨by rfl, ?_⟩) hHeld ?_ ?_
  rotate_left
  ·rintro w' hs0
   go_simp
   with_reducible rfl
  rotate_left
  ·simp only [Act.put, setIfInBounds_toArray, set_cons_zero, set_cons_succ, i64_w, i32_w]
   rfl
  refine pure_ (i := 2) (N := some 41) (v := ?_) (a' := ?_) #[true, true, true, false, false, false, false, false, false, false, false, false, false] rfl rfl (by kernel_rfl) (fun _ _ _ h => h) (Or.inl ⟨by rfl, ?_⟩) ?_ ?_
  rotate_left
  ·intro w'
   go_simp
   with_reducible rfl
  rotate_left
  ·simp only [Act.put, setIfInBounds_toArray, set_cons_zero, set_cons_succ, i64_w, i32_w]
   rfl
  refine pure_ (i := 5) (N := some 44) (v := ?_) (a' := ?_) #[true, true, true, false, false, true, false, false, false, false, false, false, false] rfl rfl (by kernel_rfl) (fun _ _ _ h => h) (Or.inl ⟨by rfl, ?_⟩) ?_ ?_
  rotate_left
  ·intro w'
   go_simp
   with_reducible rfl
  rotate_left
  ·simp only [Act.put, setIfInBounds_toArray, set_cons_zero, set_cons_succ, i64_w, i32_w]
   rfl
  generalize hwd : wr.drew = wd at hHeld ⊢
  have JD := Ax.mk (show IsS74 w wd G left bad from hwd ▸ J.out)
  have BD := Ax.mk (show Below w.heap.size w wd from hwd ▸ below_drew1 B.out)
  have HD := Ax.mk (show HtH w g sc1 sz1 v 0 wd from hwd ▸ ht_drew H.out)
  have RD := Ax.mk (show Kd.R k53 53 wd w.heap.size (fun _ => True) v acc from hwd ▸ Kd.R_drew R.out)
  clear J B H R hv3 hwd
  refine one_ (i := 3) (N := some 42) #[true, true, true, true, false, true, false, false, false, false, false, false, false] rfl rfl (by kernel_rfl) (by decide) (fun K hK => ?_)
  refine goes_ Tryd.func40 (by kernel_rfl) rfl #[.pointer (some ⟨G, 0, none⟩), .int .i64 2] (by rfl) rfl rfl (by (try simp only [List.map_toArray, List.map_cons, List.map_nil]); rfl) ?_
  refine (le_Reader_Number.calls G left bad 2 x1 q1 d1 w _ JD.out BD.out P1.out).mono ?_
  rintro e w1 ⟨rfl, hJ, hB, hKp⟩
  have HE := Ax.mk (ht_keepH HD.out hKp HGL.out)
  have RE := Ax.mk (ht_keepR RD.out JD.out hKp)
  have JE := Ax.mk hJ
  have BE := Ax.mk hB
  clear hJ hB hKp HD RD JD BD
  refine ⟨_, rfl, ?_⟩
  refine hK.out _ _ (show _ = _ from (bC HE.out.1 3).trans rfl) (fun hHeld => ?_)
  clear hK K
  refine norm_ (a' := ?_) ?_ ?_
  rotate_left
  ·show Act.put _ (some 42) _ = _
   simp only [Act.put, setIfInBounds_toArray, set_cons_zero, set_cons_succ, i64_w, i32_w]
   rfl
  refine pure_ (i := 4) (N := some 43) (v := ?_) (a' := ?_) #[true, true, true, true, true, true, false, false, false, false, false, false, false] rfl rfl (by kernel_rfl) (fun _ _ _ h => h) (Or.inl ⟨by rfl, ?_⟩) ?_ ?_
  rotate_left
  ·intro w'
   go_simp
   with_reducible rfl
  rotate_left
  ·simp only [Act.put, setIfInBounds_toArray, set_cons_zero, set_cons_succ, i64_w, i32_w]
   rfl
  refine one_ (i := 6) (N := some 45) #[true, true, true, true, true, true, true, false, false, false, false, false, false] rfl rfl (by kernel_rfl) (by decide) (fun K hK => ?_)
  refine goes_ Tryd.func40 (by kernel_rfl) rfl #[.pointer (some ⟨G, 0, none⟩), .int .i64 2] (by rfl) rfl rfl (by (try simp only [List.map_toArray, List.map_cons, List.map_nil]); rfl) ?_
  refine (le_Reader_Number.calls G q1 d1 2 x2 q2 d2 w _ JE.out BE.out P2.out).mono ?_
  rintro e w2 ⟨rfl, hJ, hB, hKp⟩
  have HF := Ax.mk (ht_keepH HE.out hKp HGL.out)
  have RF := Ax.mk (ht_keepR RE.out JE.out hKp)
  have JF := Ax.mk hJ
  have BF := Ax.mk hB
  clear hJ hB hKp HE RE JE BE
  refine ⟨_, rfl, ?_⟩
  refine hK.out _ _ (show _ = _ from (bC HF.out.1 3).trans rfl) (fun hHeld => ?_)
  clear hK K
  refine norm_ (a' := ?_) ?_ ?_
  rotate_left
  ·show Act.put _ (some 45) _ = _
   simp only [Act.put, setIfInBounds_toArray, set_cons_zero, set_cons_succ, i64_w, i32_w]
   rfl
  refine pure_ (i := 7) (N := some 46) (v := ?_) (a' := ?_) #[true, true, true, true, true, true, true, true, false, false, false, false, false] rfl rfl (by kernel_rfl) (fun _ _ _ h => h) (Or.inl ⟨by rfl, ?_⟩) ?_ ?_
  rotate_left
  ·intro w'
   go_simp
   with_reducible rfl
  rotate_left
  ·simp only [Act.put, setIfInBounds_toArray, set_cons_zero, set_cons_succ, i64_w, i32_w]
   rfl
  refine pure_ (i := 8) (N := some 47) (v := ?_) (a' := ?_) #[true, true, true, true, true, true, true, true, true, false, false, false, false] rfl rfl (by kernel_rfl) (fun _ _ _ h => h) (Or.inl ⟨by rfl, ?_⟩) ?_ ?_
  rotate_left
  ·intro w'
   go_simp
   with_reducible rfl
  rotate_left
  ·simp only [Act.put, setIfInBounds_toArray, set_cons_zero, set_cons_succ, i64_w, i32_w]
   rfl
  refine one_ (i := 9) (N := some 48) #[true, true, true, true, true, true, true, true, true, true, false, false, false] rfl rfl (by kernel_rfl) (by decide) (fun K hK => ?_)
  refine value_ (w1 := ?_) (v := ?_) (by rfl) rfl ?_ ?_
  rotate_left 2
  ·go_simp
   constructor
   ·rfl
   ·rfl
  refine hK.out _ _ (show _ = _ from (bC (blk_alloc HF.out.1 _) 3).trans rfl) (fun hHeld => ?_)
  clear hK K
  refine norm_ (a' := ?_) ?_ ?_
  rotate_left
  ·show Act.put _ (some 48) _ = _
   simp only [Act.put, setIfInBounds_toArray, set_cons_zero, set_cons_succ, i64_w, i32_w]
   rfl
  refine one_ (i := 10) (N := some 49) #[true, true, true, true, true, true, true, true, true, true, true, false, false] rfl rfl (by kernel_rfl) (by decide) (fun K hK => ?_)
  refine Kd.R_append_step k53 (w0 := w) w.heap.size (by rfl) (.tmp 40) (.tmp 48) 23 53 (.agg #[(.int .i64 0), (.int .i64 0)]) 16 rfl Tryd.underlying23 info53 rfl (by decide) (by omega) v acc (⟨wrap64 x1, wrap64 x2⟩ : S53) [.int .i64 (wrap64 x1), .int .i64 (wrap64 x2)] (fun _ => True) (fun _ => False) rfl rfl (k53_mkM _ _ _ (⟨wrap64 x1, wrap64 x2⟩ : S53)) (fun _ hk => hk.elim) (fun _ _ => trivial) RF.out BF.out (bS BF.out) (by have := HAL.out; have := HMN.out; omega) ?_
  intro v9 w9 ho hb hg hat
  have R9 := Ax.mk ho
  have B9 := Ax.mk hb
  have J9 := Ax.mk (JF.out.grown hg (JF.out.own_ne RF.out (by decide)))
  have H9 := Ax.mk (show HtH w g sc1 sz1 v 0 w9 from ⟨blk_grown HF.out.1 hg (Kd.R_ne RF.out HF.out.1 (by decide)), blk_grown HF.out.2 hg (Kd.R_ne RF.out HF.out.2 (by decide))⟩)
  clear ho hb hg hat JF BF HF RF
  refine hK.out _ _ (show _ = _ from (bC H9.out.1 3).trans rfl) (fun hHeld => ?_)
  clear hK K
  refine norm_ (a' := ?_) ?_ ?_
  rotate_left
  ·show Act.put _ (some 49) _ = _
   simp only [Act.put, setIfInBounds_toArray, set_cons_zero, set_cons_succ, i64_w, i32_w]
   rfl
  refine pure_ (i := 11) (N := some 50) (v := ?_) (a' := ?_) #[true, true, true, true, true, true, true, true, true, true, true, true, false] rfl rfl (by kernel_rfl) (fun _ _ _ h => h) (Or.inl ⟨by rfl, ?_⟩) ?_ ?_
  rotate_left
  ·intro w'
   go_simp
   with_reducible rfl
  rotate_left
  ·simp only [Act.put, setIfInBounds_toArray, set_cons_zero, set_cons_succ, i64_w, i32_w]
   rfl
  refine last_ (i := 12) (N := none) #[true, true, true, true, true, true, true, true, true, true, true, true, true] rfl rfl (by kernel_rfl) (by decide) (fun K hK => ?_)
  obtain ⟨A9, c9, rfl⟩ := Kd.R_slice R9.out
  rw [show (acc ++ [(⟨wrap64 x1, wrap64 x2⟩ : S53)]).length = acc.length + 1 by simp] at R9
  have hs9 : w9.cell? ⟨w.heap.size, 3, none⟩ = some v := (bC H9.out.1 3).trans rfl
  have hf9 := bF H9.out.1 3
  refine skip_ (w1 := ?_) (by rfl) rfl ?_ ?_
  rotate_left
  ·go_simp
   rfl
  refine hK.out _ _ ?_
  clear hK K
  refine done_ (by kernel_rfl) ?_
  go_wp2
  apply_assumption
  go_wp2
  go_roundw
  case rel => exact ⟨j + 1, acc ++ [⟨wrap64 x1, wrap64 x2⟩], q2, d2, .slice A9 _ c9, by go_num, HLT.out, HG, ⟨by rw [List.length_append, HAL.out]; rfl⟩, ⟨⟨bR (p := ⟨w.heap.size, 3, none⟩) J9.out.1 (by have := HGL.out; show G ≠ w.heap.size; omega) _, J9.out.2⟩⟩, ⟨below_set B9.out (Nat.le_refl _)⟩, ⟨ht_span H9.out _⟩, ⟨Kd.R_mono (Kd.R_far (p := ⟨w.heap.size, 3, none⟩) (Kd.R_types R9.out H9.out.1 (by decide)) (fun _ hk => hk.2) _) (fun _ _ => trivial)⟩⟩
  case measure => have := HLT.out; simp [intOf]; omega
 ·obtain rfl : j = mn := by omega
  have hG := HG.out
  rw [Nat.sub_self, head_Take.l] at hG
  cases hG
  have hx := A7.out
  clear HG A7
  unfold head_Take.m at hx
  have q0 := cellS74_0 J.out.1
  have q1 := cellS74_1 J.out.1
  obtain ⟨A0, c0, rfl⟩ := Kd.R_slice R.out
  obtain ⟨⟨h0, h1, h2, h3, h4⟩, f0, f1, f2, f3, f4⟩ := ht_facts H.out
  cases b6 with
  | true =>
   rw [if_pos rfl] at hx
   cases hx
   go_wp2
   exact ht_doorNo (by decide) rfl rfl (ht_err (ht_head H.out g sc1 sz1 _) 2) (below_set (ht_headB B.out) (Nat.le_succ _))
  | false =>
   rw [if_neg (by decide)] at hx
   by_cases hnm : nm.toList = [114, 116, 99, 108]
   case neg =>
    rw [if_neg hnm] at hx
    cases hx
    have n1 : (nm.toList == [114, 116, 99, 108]) = false := beq_eq_false_iff_ne.mpr hnm
    have n2 : (nm.toList != [114, 116, 99, 108]) = true := bne_iff_ne.mpr hnm
    clear hnm
    go_wp2
    exact ht_doorNo (by decide) rfl rfl (ht_err (ht_head H.out g sc1 sz1 _) 2) (below_set (ht_headB B.out) (Nat.le_succ _))
   rw [if_pos hnm] at hx
   have n1 : (nm.toList == [114, 116, 99, 108]) = true := beq_iff_eq.mpr hnm
   have n2 : (nm.toList != [114, 116, 99, 108]) = false := bne_eq_false_iff_eq.mpr hnm
   have HX := Ax.mk hx
   clear hnm hx
   go_wp2_with (first | (go_at_call 41; fail))
   refine (Sh.strings_Trim_one l6 0 (by decide) wr (by have := HL6.out; omega)).mono ?_
   rintro e W2 ⟨rfl, hw⟩
   have hH2 : HtH w g sc1 sz1 (.slice A0 ls.length c0) 0 W2 := by rcases hw with rfl | rfl; exact H.out; exact ht_drew H.out
   have hB2 : Below w.heap.size w W2 := by rcases hw with rfl | rfl; exact B.out; exact below_drew1 B.out
   have hR2 : Kd.R k53 53 W2 w.heap.size (fun _ => True) (.slice A0 ls.length c0) ls := by rcases hw with rfl | rfl; exact R.out; exact Kd.R_drew R.out
   clear hw H B R J h0 h1 h2 h3 h4 f0 f1 f2 f3 f4 q0 q1
   obtain ⟨⟨h0, h1, h2, h3, h4⟩, f0, f1, f2, f3, f4⟩ := ht_facts hH2
   have H := Ax.mk hH2
   have B := Ax.mk hB2
   have R := Ax.mk hR2
   have hx := HX.out
   clear hH2 hB2 hR2 HX
   have htl : (⟨(Lib.trimB l6.data.toList 0).toArray⟩ : ByteArray).toList = Lib.trimB l6.data.toList 0 := by rw [ByteArray.toList_eq]
   generalize (⟨(Lib.trimB l6.data.toList 0).toArray⟩ : ByteArray) = tr at htl ⊢
   by_cases htr : Lib.trimB l6.data.toList 0 = []
   case neg =>
    rw [if_neg htr] at hx
    cases hx
    rw [← htl] at htr
    have m1 : (tr.toList == []) = false := beq_eq_false_iff_ne.mpr htr
    have m2 : (tr.toList != []) = true := bne_iff_ne.mpr htr
    clear htr htl
    go_wp2
    exact ht_doorNo (by decide) rfl rfl (ht_err (ht_head H.out g sc1 sz1 _) 2) (below_set (ht_headB B.out) (Nat.le_succ _))
   rw [if_pos htr] at hx
   rw [← htl] at htr
   have m1 : (tr.toList == []) = true := beq_iff_eq.mpr htr
   have m2 : (tr.toList != []) = false := bne_eq_false_iff_eq.mpr htr
   clear htr htl
   replace hx := Option.bind_eq_some_iff.1 hx
   obtain ⟨ok, hr, hx⟩ := hx
   have HR := Ax.mk hr
   have HX := Ax.mk hx
   clear hr hx
   go_wp2_with (first | (go_at_call 13; fail))
   refine (head_Right.calls k g sc1 sz1 A0 c0 ls ok W2 (Kd.R_reads' R.out).2.2 (Kd.R_reads' R.out).2.1 HR.out).mono ?_
   rintro e W3 ⟨rfl, hb3⟩
   have hH3 := ht_below H.out hb3
   have B3 := Ax.mk (bP B.out hb3)
   have R3 := Ax.mk (Kd.R_below R.out hb3)
   clear hb3 H B R h0 h1 h2 h3 h4 f0 f1 f2 f3 f4 HR
   obtain ⟨⟨h0, h1, h2, h3, h4⟩, f0, f1, f2, f3, f4⟩ := ht_facts hH3
   have H := Ax.mk hH3
   clear hH3
   have hx := HX.out
   clear HX
   cases ok with
   | false =>
    rw [if_neg (by decide)] at hx
    cases hx
    go_wp2
    exact ht_doorNo (by decide) rfl rfl (ht_err (ht_head H.out g sc1 sz1 _) 2) (below_set (ht_headB B3.out) (Nat.le_succ _))
   | true =>
    rw [if_pos rfl] at hx
    cases hx
    go_wp2
    exact ht_doorOk rfl rfl (ht_err (ht_head H.out g r2 r3 _) 0) (ht_headR R3.out H.out _ _ _ _ _) (below_set (ht_headB B3.out) (Nat.le_succ _))
theorem head_Take.calls (k : Nat) (a0 : ByteArray) (r1 r2 r3 : Int) (r4 : List S53) (r5 : Int) (w : World) (h : head_Take.f k a0 = some (r1, r2, r3, r4, r5)) :
  Calls Tryd.prog 16 #[.string a0] w fun e w' => ∃ v1_, e = .returned (.tuple #[.agg #[.int .u64 r1, .int .i64 r2, .int .i64 r3, v1_], .int .i64 r5]) ∧ Kd.R k53 53 w' w.heap.size (fun _ => True) v1_ r4 ∧ Below w.heap.size w w' := by
 unfold head_Take.f at h
 by_cases h0 : a0.size = 64
 case neg =>
  rw [if_neg h0] at h
  cases h
  exact head_Take.size a0 w h0
 rw [if_pos h0] at h
 replace h := Option.bind_eq_some_iff.1 h
 obtain ⟨⟨t, er⟩, ht, h⟩ := h
 by_cases he : er = 0
 case neg =>
  rw [if_neg he] at h
  cases h
  exact head_Take.seal a0 t er w h0 ht he
 subst he
 rw [if_pos rfl] at h
 replace h := Option.bind_eq_some_iff.1 h
 obtain ⟨⟨nm, l1, b1⟩, a1, h⟩ := h
 replace h := Option.bind_eq_some_iff.1 h
 obtain ⟨⟨g, l2, b2⟩, a2, h⟩ := h
 replace h := Option.bind_eq_some_iff.1 h
 obtain ⟨⟨sc, l3, b3⟩, a3, h⟩ := h
 replace h := Option.bind_eq_some_iff.1 h
 obtain ⟨⟨sz, l4, b4⟩, a4, h⟩ := h
 replace h := Option.bind_eq_some_iff.1 h
 obtain ⟨⟨mn, l5, b5⟩, a5, h⟩ := h
 by_cases hm : 0 ≤ mn ∧ mn < 256 ∧ l5.size ≤ 1000
 case neg => rw [if_neg hm] at h; cases h
 rw [if_pos hm] at h
 replace h := Option.bind_eq_some_iff.1 h
 obtain ⟨⟨ls, l6, b6⟩, a6, h⟩ := h
 by_cases hl : l6.size ≤ 1000
 case neg => rw [if_neg hl] at h; cases h
 rw [if_pos hl] at h
 obtain ⟨n, rfl⟩ : ∃ n : Nat, mn = (n : Int) := ⟨mn.toNat, by omega⟩
 exact head_Take.main k a0 t nm l1 b1 g l2 b2 sc l3 b3 sz l4 b4 n l5 b5 ls l6 b6 r1 r2 r3 r4 r5 w h0 ht a1 a2 a3 a4 a5 (by omega) a6 hl h
end Go.Proofs.YtcgejogmiglalaaDoor.Fn
end
section
namespace Go.Proofs.YtcgejogmiglalaaDoor.Fn
open Go.RowKit Go.Proofs.YtcgejogmiglalaaDoorW.PrintWords Go.Proofs.YtcgejogmiglalaaDoorW.PrintLast Go.Proofs.YtcgejogmiglalaaDoorW.PrintMore Go.Proofs.YtcgejogmiglalaaDoor.Lf
attribute [local go_sem] max2_int min2_int max_two min_two max_three min_three max_four min_four   -- for this text's walks alone
set_option linter.unusedVariables false
set_option linter.unusedSimpArgs false
def r6_Take.l0 : Nat → ByteArray → ByteArray → Int → Int → Int → Int → Int → List (S53) → Option (Int × Int × Int × (List (S53)) × Int)
 | 0, _, _, _, _, _, _, _, _ => none
 | k + 1, x0, x4, x6, x8, x250000, x250001, x250002, x250003 => if x8 < x6 then (if 0 ≤ (wrap64 (19 + (wrap64 (4 * x8)))) then (if (wrap64 (19 + (wrap64 (4 * x8)))) ≤ (wrap64 (21 + (wrap64 (4 * x8)))) then (if (wrap64 (21 + (wrap64 (4 * x8)))) ≤ (x4.size : Int) then ((r2_Get.f k (x4.extract ((wrap64 (19 + (wrap64 (4 * x8)))) : Int).toNat ((wrap64 (21 + (wrap64 (4 * x8)))) : Int).toNat)).bind fun t250 => (if 0 ≤ (wrap64 (21 + (wrap64 (4 * x8)))) then (if (wrap64 (21 + (wrap64 (4 * x8)))) ≤ (wrap64 (23 + (wrap64 (4 * x8)))) then (if (wrap64 (23 + (wrap64 (4 * x8)))) ≤ (x4.size : Int) then ((r2_Get.f k (x4.extract ((wrap64 (21 + (wrap64 (4 * x8)))) : Int).toNat ((wrap64 (23 + (wrap64 (4 * x8)))) : Int).toNat)).bind fun t251 => (if x250003.length < 8796093022208 then (r6_Take.l0 k x0 x4 x6 (wrap64 (x8 + 1)) x250000 x250001 x250002 (x250003 ++ [(⟨wrap64 (t250), wrap64 (t251)⟩ : S53)])) else (none))) else (none)) else (none)) else (none))) else (none)) else (none)) else (none)) else ((r6_Put.f k x250000 x250001 x250002 x250003).bind fun bt255 => (if bt255.2 = 0 then (if bt255.1.toList = x0.toList then (some (x250000, x250001, x250002, x250003, 0)) else (some (0, 0, 0, ([] : List (S53)), 2))) else (some (0, 0, 0, ([] : List (S53)), 2))))
def r6_Take.f (k : Nat) (a0 : ByteArray) : Option (Int × Int × Int × (List (S53)) × Int) := if (a0.size : Int) = 64 then ((r3_Take.f k a0).bind fun bt244 => (if bt244.2 = 0 then (if 18 < (bt244.1.size : Int) then (if (wrap64 (bt bt244.1 18)) > 8 then (some (0, 0, 0, ([] : List (S53)), 2)) else (if 4 ≤ 12 then (if 12 ≤ (bt244.1.size : Int) then ((r2_Get.f k (bt244.1.extract 4 12)).bind fun t246 => (if 12 ≤ 14 then (if 14 ≤ (bt244.1.size : Int) then ((r2_Get.f k (bt244.1.extract 12 14)).bind fun t247 => (if 14 ≤ 18 then (if 18 ≤ (bt244.1.size : Int) then ((r2_Get.f k (bt244.1.extract 14 18)).bind fun t248 => (r6_Take.l0 k a0 bt244.1 (wrap64 (bt bt244.1 18)) 0 t246 (wrap64 (t247)) (wrap64 (t248)) ([] : List (S53)))) else (none)) else (none))) else (none)) else (none))) else (none)) else (none))) else (none)) else (some (0, 0, 0, ([] : List (S53)), bt244.2)))) else (some (0, 0, 0, ([] : List (S53)), 1))
theorem r6_Take.mono_l : ∀ k, (∀ y0 y1 y2 y3 y4 y5 y6 y7, LeO (r6_Take.l0 k y0 y1 y2 y3 y4 y5 y6 y7) (r6_Take.l0 (k + 1) y0 y1 y2 y3 y4 y5 y6 y7))
 | 0 => fun _ _ _ _ _ _ _ _ r h => by simp [r6_Take.l0] at h
 | k + 1 => by
  have ih0 := r6_Take.mono_l k
  ·intro y0 y1 y2 y3 y4 y5 y6 y7
   unfold r6_Take.l0
   repeat' first
   | (with_reducible exact ih0 _ _ _ _ _ _ _ _)
   | (with_reducible exact r2_Get.mono _ _)
   | (with_reducible exact r3_Take.mono _ _)
   | (with_reducible exact r6_Put.mono _ _ _ _ _)
   | (with_reducible exact LeO.refl _)
   | (with_reducible exact LeO.none _)
   | (with_reducible refine LeO.ite ?_ ?_)
   | (with_reducible refine LeO.bind ?_ (fun _ => ?_))
   | exact ih0 _ _ _ _ _ _ _ _
   | exact r2_Get.mono _ _
   | exact r3_Take.mono _ _
   | exact r6_Put.mono _ _ _ _ _
   | exact LeO.none _
   | refine LeO.ite ?_ ?_
   | refine LeO.bind ?_ (fun _ => ?_)
theorem r6_Take.mono : ∀ a0 k, LeO (r6_Take.f k a0) (r6_Take.f (k + 1) a0) := by
 intro a0 k
 have ih0 := r6_Take.mono_l k
 unfold r6_Take.f
 repeat' first
   | (with_reducible exact ih0 _ _ _ _ _ _ _ _)
   | (with_reducible exact r2_Get.mono _ _)
   | (with_reducible exact r3_Take.mono _ _)
   | (with_reducible exact r6_Put.mono _ _ _ _ _)
   | (with_reducible exact LeO.refl _)
   | (with_reducible exact LeO.none _)
   | (with_reducible refine LeO.ite ?_ ?_)
   | (with_reducible refine LeO.bind ?_ (fun _ => ?_))
   | exact ih0 _ _ _ _ _ _ _ _
   | exact r2_Get.mono _ _
   | exact r3_Take.mono _ _
   | exact r6_Put.mono _ _ _ _ _
   | exact LeO.none _
   | refine LeO.ite ?_ ?_
   | refine LeO.bind ?_ (fun _ => ?_)
def r6_Take.T9 : Bool × List (List Nat × List Nat) := (true, [([], []), ([0], [0]), ([1], [1]), ([], []), ([3], [3]), ([4, 2], [4]), ([5], [5]), ([], []), ([7], [7]), ([8, 5], [8]), ([9], [9]), ([2, 6, 10], [2, 6, 10]), ([], []), ([12, 11, 9, 0, 1, 2, 3, 4, 5, 6, 7, 8, 9, 10, 11, 12], [11, 12])])
def r6_Take.B9 : List Nat := [0, 1, 3, 0, 8, 31, 63, 0, 128, 447, 959, 2047, 0, 8191]
def r6_Take.T13 : Bool × List (List Nat × List Nat) := (true, [([], []), ([0], [0]), ([], []), ([], []), ([3], [3]), ([4], [4]), ([], []), ([6], [6]), ([7], [7]), ([2, 5, 8], [2, 5, 8]), ([9], [9]), ([10], [10]), ([], []), ([], []), ([13], [13]), ([14], [14]), ([], []), ([16], [16]), ([17], [17]), ([12, 15, 18], [12, 15, 18]), ([19, 10], [19]), ([20], [20]), ([11, 21], [11, 21]), ([22], [22]), ([1, 23, 20], [1, 23]), ([0, 1, 2, 3, 4, 5, 6, 7, 8, 9, 10, 11, 12, 13, 14, 15, 16, 17, 18, 19, 20, 21, 22, 23, 24], []), ([25, 24, 24, 0, 1, 2, 3, 4, 5, 6, 7, 8, 9, 10, 11, 12, 13, 14, 15, 16, 17, 18, 19, 20, 21, 22, 23, 24], [24, 25])])
def r6_Take.B13 : List Nat := [0, 1, 0, 0, 8, 24, 0, 64, 192, 508, 1020, 2044, 0, 0, 8192, 24576, 0, 65536, 196608, 520192, 1046524, 2095100, 4194300, 8388604, 16777215, 33554431, 67108863]
end Go.Proofs.YtcgejogmiglalaaDoor.Fn
end
section
namespace Go.Proofs.YtcgejogmiglalaaDoor.Fn
open Go.RowKit Go.Proofs.YtcgejogmiglalaaDoorW.PrintWords Go.Proofs.YtcgejogmiglalaaDoorW.PrintLast Go.Proofs.YtcgejogmiglalaaDoorW.PrintMore Go.Proofs.YtcgejogmiglalaaDoor.Lf
open List (setIfInBounds_toArray set_cons_zero set_cons_succ)
attribute [local go_sem] max2_int min2_int max_two min_two max_three min_three max_four min_four   -- for this text's walks alone
set_option linter.unusedVariables false
set_option linter.unusedSimpArgs false
def head_Choose.j0 : Nat → Int → Int → Bool → Int → Int → Int → List (S53) → Int → Int → Int → List (S53) → Option (Int × Int × Int × (List (S53)) × Int × Int)
 | 0, _, _, _, _, _, _, _, _, _, _, _ => none
 | k + 1, x8, x10, x21, x129000, x129001, x129002, x129003, x137000, x137001, x137002, x137003 => if x21 = true then (some (0, 0, 0, ([] : List (S53)), 0, 2)) else (if x8 = 0 then (if x10 = 0 then (if x137000 > x129000 then (some (x137000, x137001, x137002, x137003, 1, 0)) else (some (x129000, x129001, x129002, x129003, 0, 0))) else (some (x129000, x129001, x129002, x129003, 0, 0))) else (some (x137000, x137001, x137002, x137003, 1, 0)))
def head_Choose.f (k : Nat) (a0 : ByteArray) (a1 : ByteArray) : Option (Int × Int × Int × (List (S53)) × Int × Int) := (head_Take.f k a0).bind fun bt121 => ((head_Take.f k a1).bind fun bt129 => (if bt121.2.2.2.2 = 0 then (head_Choose.j0 k bt121.2.2.2.2 bt129.2.2.2.2 false bt121.1 bt121.2.1 bt121.2.2.1 bt121.2.2.2.1 bt129.1 bt129.2.1 bt129.2.2.1 bt129.2.2.2.1) else (head_Choose.j0 k bt121.2.2.2.2 bt129.2.2.2.2 (bt129.2.2.2.2 != 0) bt121.1 bt121.2.1 bt121.2.2.1 bt121.2.2.2.1 bt129.1 bt129.2.1 bt129.2.2.1 bt129.2.2.2.1)))
theorem head_Choose.mono_l : ∀ k, (∀ y0 y1 y2 y3 y4 y5 y6 y7 y8 y9 y10, LeO (head_Choose.j0 k y0 y1 y2 y3 y4 y5 y6 y7 y8 y9 y10) (head_Choose.j0 (k + 1) y0 y1 y2 y3 y4 y5 y6 y7 y8 y9 y10))
 | 0 => fun _ _ _ _ _ _ _ _ _ _ _ r h => by simp [head_Choose.j0] at h
 | k + 1 => by
  have ih0 := head_Choose.mono_l k
  ·intro y0 y1 y2 y3 y4 y5 y6 y7 y8 y9 y10
   unfold head_Choose.j0
   repeat' first
   | (with_reducible exact ih0 _ _ _ _ _ _ _ _ _ _ _)
   | (with_reducible exact head_Take.mono _ _)
   | (with_reducible exact LeO.refl _)
   | (with_reducible exact LeO.none _)
   | (with_reducible refine LeO.ite ?_ ?_)
   | (with_reducible refine LeO.bind ?_ (fun _ => ?_))
   | exact ih0 _ _ _ _ _ _ _ _ _ _ _
   | exact head_Take.mono _ _
   | exact LeO.none _
   | refine LeO.ite ?_ ?_
   | refine LeO.bind ?_ (fun _ => ?_)
theorem head_Choose.mono : ∀ a0 a1 k, LeO (head_Choose.f k a0 a1) (head_Choose.f (k + 1) a0 a1) := by
 intro a0 a1 k
 have ih0 := head_Choose.mono_l k
 unfold head_Choose.f
 repeat' first
   | (with_reducible exact ih0 _ _ _ _ _ _ _ _ _ _ _)
   | (with_reducible exact head_Take.mono _ _)
   | (with_reducible exact LeO.refl _)
   | (with_reducible exact LeO.none _)
   | (with_reducible refine LeO.ite ?_ ?_)
   | (with_reducible refine LeO.bind ?_ (fun _ => ?_))
   | exact ih0 _ _ _ _ _ _ _ _ _ _ _
   | exact head_Take.mono _ _
   | exact LeO.none _
   | refine LeO.ite ?_ ?_
   | refine LeO.bind ?_ (fun _ => ?_)
set_option maxHeartbeats 8000000 in
set_option maxRecDepth 100000 in
theorem head_Choose.calls (k : Nat) (a0 : ByteArray) (a1 : ByteArray) (r1 : Int) (r2 : Int) (r3 : Int) (r4 : List (S53)) (r5 : Int) (r6 : Int) (w : World) (h : head_Choose.f k a0 a1 = some (r1, r2, r3, r4, r5, r6)) :
  Calls Tryd.prog 18 #[.string a0, .string a1] w fun e w' => ∃ v3_ : Value, e = .returned (.tuple #[.agg #[.int .u64 r1, .int .i64 r2, .int .i64 r3, v3_], .int .i64 r5, .int .i64 r6]) ∧ Kd.R k53 53 w' w.heap.size (fun _ => True) v3_ r4 ∧ Below w.heap.size w w' := by
 have hu25 := Tryd.underlying25
 have HB := Ax.mk (Below.refl w.heap.size w)
 have H : ((head_Take.f k a0).bind fun bt121 => ((head_Take.f k a1).bind fun bt129 => (if bt121.2.2.2.2 = 0 then (head_Choose.j0 k bt121.2.2.2.2 bt129.2.2.2.2 false bt121.1 bt121.2.1 bt121.2.2.1 bt121.2.2.2.1 bt129.1 bt129.2.1 bt129.2.2.1 bt129.2.2.2.1) else (head_Choose.j0 k bt121.2.2.2.2 bt129.2.2.2.2 (bt129.2.2.2.2 != 0) bt121.1 bt121.2.1 bt121.2.2.1 bt121.2.2.2.1 bt129.1 bt129.2.1 bt129.2.2.1 bt129.2.2.2.1)))) = some (r1, r2, r3, r4, r5, r6) := h
 clear h
 replace H := Option.bind_eq_some_iff.mp H
 obtain ⟨⟨t121, t122, t123, t124, t127⟩, A30, H⟩ := H
 replace H : ((head_Take.f k a1).bind fun bt129 => (if t127 = 0 then (head_Choose.j0 k t127 bt129.2.2.2.2 false t121 t122 t123 t124 bt129.1 bt129.2.1 bt129.2.2.1 bt129.2.2.2.1) else (head_Choose.j0 k t127 bt129.2.2.2.2 (bt129.2.2.2.2 != 0) t121 t122 t123 t124 bt129.1 bt129.2.1 bt129.2.2.1 bt129.2.2.2.1))) = some (r1, r2, r3, r4, r5, r6) := H
 have A3 := Ax.mk A30
 clear A30
 replace H := Option.bind_eq_some_iff.mp H
 obtain ⟨⟨t129, t130, t131, t132, t135⟩, A40, H⟩ := H
 replace H : (if t127 = 0 then (head_Choose.j0 k t127 t135 false t121 t122 t123 t124 t129 t130 t131 t132) else (head_Choose.j0 k t127 t135 (t135 != 0) t121 t122 t123 t124 t129 t130 t131 t132)) = some (r1, r2, r3, r4, r5, r6) := H
 have A4 := Ax.mk A40
 clear A40
 have HC5 := Ax.mk H
 clear H
 go_enter Tryd.func18, Tryd.ntmps18
 go_upto_region 3 with (first | ((with_reducible refine gate_dst (N := 4) rfl ?_); refine box_event ?hg (N := 4) ?hd (cs := #[.int .u64 0, .int .i64 0, .int .i64 0, .slice none 0 0]) (t := 25) ?hr ?_; (case hd => rfl); (case hg => rfl); (case hr => first | (go_simp; done) | (go_simp; rfl)); intro gb120 hg w6 hbox hb; have n0_ := Ax.mk (bP bA hb); have n1_ := Ax.mk (hbox); have n2_ := Ax.mk ((ge_new hg : w.heap.size ≤ gb120)); have n3_ := n2_; clear HB; have HB := n0_; have BK120 := n1_; have GW120 := n2_; have GE120 := n3_; clear n0_ n1_ n2_ n3_; clear hb hbox hg) | ((with_reducible refine gate_callee (f := 16) rfl ?_); refine goesL_ (some 13) rfl rfl Tryd.func16 (by kernel_rfl) rfl #[.string a0] rfl (by (try simp only [List.map_toArray, List.map_cons, List.map_nil]); first | done | rfl | (simp only [List.length_drop, List.length_take]; rfl) | (rw [wrap_sum2 (by assumption)]; rfl)) ?_; (with_reducible refine (head_Take.calls k a0 t121 t122 t123 t124 t127 _ A3.out).mono ?_); rintro e w7 ⟨v125, rfl, ho0, hb⟩; refine ⟨_, rfl, ?_⟩; have n0_ := Ax.mk (Kd.R_lower ho0 (bS bA)); have n1_ := Ax.mk (bB (bT BK120.out) hb); have n2_ := Ax.mk (bP bA hb); clear BK120; clear HB; have HO126 := n0_; have BK120 := n1_; have HB := n2_; clear n0_ n1_ n2_; (try clear hb); (try clear hb2); (try clear hk); (try clear hi); (try clear ho0)) | ((with_reducible refine gate_dst (N := 7) rfl ?_); refine box_event ?hg (N := 7) ?hd (cs := #[.int .u64 0, .int .i64 0, .int .i64 0, .slice none 0 0]) (t := 25) ?hr ?_; (case hd => rfl); (case hg => rfl); (case hr => first | (go_simp; done) | (go_simp; rfl)); intro gb128 hg w8 hbox hb; have n0_ := Ax.mk (Kd.R_below (by exact Kd.R_to HO126.out) hb); have n1_ := Ax.mk (bB (bT BK120.out) hb); have n2_ := Ax.mk (bP bA hb); have n3_ := Ax.mk (hbox); have n4_ := Ax.mk ((ge_new hg : w.heap.size ≤ gb128)); have n5_ := n4_; have n6_ := Ax.mk ((ne_lt hg BK120.out : gb120 ≠ gb128)); have n7_ := Ax.mk ((ne_gt hg BK120.out : gb128 ≠ gb120)); clear HO126; clear BK120; clear HB; have HO126 := n0_; have BK120 := n1_; have HB := n2_; have BK128 := n3_; have GW128 := n4_; have GE128 := n5_; have NB120_128 := n6_; have NB128_120 := n7_; clear n0_ n1_ n2_ n3_ n4_ n5_ n6_ n7_; clear hb hbox hg; have hnb9 := NB128_120.out; have hnc9 := NB120_128.out; have hcz10_0 : w8.cell? ⟨gb128, 0, none⟩ = some (.int .u64 0) := (bC BK128.out 0).trans rfl; have hcz10_1 : w8.cell? ⟨gb128, 1, none⟩ = some (.int .i64 0) := (bC BK128.out 1).trans rfl; have hcz10_2 : w8.cell? ⟨gb128, 2, none⟩ = some (.int .i64 0) := (bC BK128.out 2).trans rfl; have hcz10_3 : w8.cell? ⟨gb128, 3, none⟩ = some (.slice none 0 0) := (bC BK128.out 3).trans rfl; have hfz10_0 := bF BK128.out 0; have hfz10_1 := bF BK128.out 1; have hfz10_2 := bF BK128.out 2; have hfz10_3 := bF BK128.out 3; obtain ⟨Ao11, co11, eo11⟩ := Kd.R_slice HO126.out; subst eo11) | ((with_reducible refine gate_callee (f := 16) rfl ?_); refine goesL_ (some 18) rfl rfl Tryd.func16 (by kernel_rfl) rfl #[.string a1] rfl (by (try simp only [List.map_toArray, List.map_cons, List.map_nil]); first | done | rfl | (simp only [List.length_drop, List.length_take]; rfl) | (rw [wrap_sum2 (by assumption)]; rfl)) ?_; (with_reducible refine (head_Take.calls k a1 t129 t130 t131 t132 t135 _ A4.out).mono ?_); rintro e w12 ⟨v133, rfl, ho0, hb⟩; refine ⟨_, rfl, ?_⟩; have n0_ := Ax.mk (Kd.R_elder' (by apply Kd.R_to; exact (Kd.R_mono (Kd.R_far (p := ⟨gb128, 3, none⟩) (Kd.R_far (p := ⟨gb128, 2, none⟩) (Kd.R_far (p := ⟨gb128, 1, none⟩) (Kd.R_far (p := ⟨gb128, 0, none⟩) (Kd.R_types HO126.out BK128.out (by decide)) (fun _ hk => hk.2) (.int .u64 t121)) (fun _ hk => hk.2) (.int .i64 t122)) (fun _ hk => hk.2) (.int .i64 t123)) (fun _ hk => hk.2) (.slice Ao11 t124.length co11)) (fun _ h_ => h_.1))) (Kd.R_base ho0) hb); have n1_ := Ax.mk (Kd.R_lower (Kd.R_new' ho0 (Kd.R_lt (by apply Kd.R_to; exact (Kd.R_mono (Kd.R_far (p := ⟨gb128, 3, none⟩) (Kd.R_far (p := ⟨gb128, 2, none⟩) (Kd.R_far (p := ⟨gb128, 1, none⟩) (Kd.R_far (p := ⟨gb128, 0, none⟩) (Kd.R_types HO126.out BK128.out (by decide)) (fun _ hk => hk.2) (.int .u64 t121)) (fun _ hk => hk.2) (.int .i64 t122)) (fun _ hk => hk.2) (.int .i64 t123)) (fun _ hk => hk.2) (.slice Ao11 t124.length co11)) (fun _ h_ => h_.1))))) (bS bA)); have n2_ := Ax.mk (bB (g := gb120) (o := .cells #[.int .u64 0, .int .i64 0, .int .i64 0, .slice none 0 0] 25 (0, 0)) (by refine bT ?_; refine bR ?_ NB120_128.out _; refine bT ?_; refine bR ?_ NB120_128.out _; refine bT ?_; refine bR ?_ NB120_128.out _; refine bT ?_; refine bR ?_ NB120_128.out _; exact bT BK120.out) hb); have n3_ := Ax.mk (bB (g := gb128) (o := .cells #[.int .u64 t121, .int .i64 t122, .int .i64 t123, .slice Ao11 t124.length co11] 25 (0, 0)) (by refine bT ?_; refine bU (cs := #[.int .u64 t121, .int .i64 t122, .int .i64 t123, .slice none 0 0]) ?_ 3 _ rfl; refine bT ?_; refine bU (cs := #[.int .u64 t121, .int .i64 t122, .int .i64 0, .slice none 0 0]) ?_ 2 _ rfl; refine bT ?_; refine bU (cs := #[.int .u64 t121, .int .i64 0, .int .i64 0, .slice none 0 0]) ?_ 1 _ rfl; refine bT ?_; refine bU (cs := #[.int .u64 0, .int .i64 0, .int .i64 0, .slice none 0 0]) ?_ 0 _ rfl; exact bT BK128.out) hb); have n4_ := Ax.mk (bP bA hb); clear HO126; clear BK120; clear BK128; clear HB; have HO126 := n0_; have HO134 := n1_; have BK120 := n2_; have BK128 := n3_; have HB := n4_; clear n0_ n1_ n2_ n3_ n4_; (try clear hb); (try clear hb2); (try clear hk); (try clear hi); (try clear ho0)) | ((with_reducible refine gate_dst (N := 9) rfl ?_); refine box_event ?hg (N := 9) ?hd (cs := #[.int .u64 0, .int .i64 0, .int .i64 0, .slice none 0 0]) (t := 25) ?hr ?_; (case hd => rfl); (case hg => rfl); (case hr => first | (go_simp; done) | (go_simp; rfl)); intro gb136 hg w13 hbox hb; have n0_ := Ax.mk (Kd.R_below (by exact Kd.R_to HO126.out) hb); have n1_ := Ax.mk (Kd.R_below (by exact Kd.R_to HO134.out) hb); have n2_ := Ax.mk (bB (bT BK120.out) hb); have n3_ := Ax.mk (bB (bT BK128.out) hb); have n4_ := Ax.mk (bP bA hb); have n5_ := Ax.mk (hbox); have n6_ := Ax.mk ((ge_new hg : w.heap.size ≤ gb136)); have n7_ := n6_; have n8_ := Ax.mk ((ne_lt hg BK120.out : gb120 ≠ gb136)); have n9_ := Ax.mk ((ne_gt hg BK120.out : gb136 ≠ gb120)); have n10_ := Ax.mk ((ne_lt hg BK128.out : gb128 ≠ gb136)); have n11_ := Ax.mk ((ne_gt hg BK128.out : gb136 ≠ gb128)); clear HO126; clear HO134; clear BK120; clear BK128; clear HB; have HO126 := n0_; have HO134 := n1_; have BK120 := n2_; have BK128 := n3_; have HB := n4_; have BK136 := n5_; have GW136 := n6_; have GE136 := n7_; have NB120_136 := n8_; have NB136_120 := n9_; have NB128_136 := n10_; have NB136_128 := n11_; clear n0_ n1_ n2_ n3_ n4_ n5_ n6_ n7_ n8_ n9_ n10_ n11_; clear hb hbox hg; have hnb14 := NB136_120.out; have hnc14 := NB120_136.out; have hnb15 := NB136_128.out; have hnc15 := NB128_136.out; have hcz16_0 : w13.cell? ⟨gb136, 0, none⟩ = some (.int .u64 0) := (bC BK136.out 0).trans rfl; have hcz16_1 : w13.cell? ⟨gb136, 1, none⟩ = some (.int .i64 0) := (bC BK136.out 1).trans rfl; have hcz16_2 : w13.cell? ⟨gb136, 2, none⟩ = some (.int .i64 0) := (bC BK136.out 2).trans rfl; have hcz16_3 : w13.cell? ⟨gb136, 3, none⟩ = some (.slice none 0 0) := (bC BK136.out 3).trans rfl; have hfz16_0 := bF BK136.out 0; have hfz16_1 := bF BK136.out 1; have hfz16_2 := bF BK136.out 2; have hfz16_3 := bF BK136.out 3; obtain ⟨Ao17, co17, eo17⟩ := Kd.R_slice HO134.out; subst eo17))
 (try simp only [Act.put, setIfInBounds_toArray, set_cons_zero, set_cons_succ])
 go_cut [21] (fun v21 wc => ∃ (kq : Nat) (x21_4 : Bool), v21 = .bool x21_4 ∧ Ax (head_Choose.j0 kq t127 t135 x21_4 t121 t122 t123 t124 t129 t130 t131 t132 = some (r1, r2, r3, r4, r5, r6)) ∧ Ax (kq ≤ k) ∧ Ax (Kd.R k53 53 wc w.heap.size (fun k_ => some k_ ≠ ((.slice Ao17 t132.length co17) : Value).ownBlock) (.slice Ao11 t124.length co11) t124) ∧ Ax (Kd.R k53 53 wc w.heap.size (fun k_ => some k_ ≠ ((.slice Ao11 t124.length co11) : Value).ownBlock) (.slice Ao17 t132.length co17) t132) ∧ Ax (wc.heap[gb120]? = some (.cells #[.int .u64 0, .int .i64 0, .int .i64 0, (.slice none 0 0)] 25 (0, 0))) ∧ Ax (wc.heap[gb128]? = some (.cells #[.int .u64 t121, .int .i64 t122, .int .i64 t123, (.slice Ao11 t124.length co11)] 25 (0, 0))) ∧ Ax (wc.heap[gb136]? = some (.cells #[.int .u64 t129, .int .i64 t130, .int .i64 t131, (.slice Ao17 t132.length co17)] 25 (0, 0))) ∧ Ax (Below w.heap.size w wc))
 case first =>
  have H := HC5.out
  clear HC5
  by_cases c18 : t127 = 0
  ·rw [if_pos c18] at H
   have c18b0 : (t127 == 0) = true := beq_iff_eq.mpr c18
   have c18b1 : (t127 != 0) = false := bne_eq_false_iff_eq.mpr c18
   clear c18
   (first | rw [c18b0] | (simp only [i64_w, i32_w]; rw [c18b0]) | skip)
   have H' := Ax.mk H
   clear H
   go_wp2
   go_meet
   case rel => exact ⟨_, (false), (by first | rfl | (simp; done) | (simp [*]; done)), H', ⟨by first | omega | exact Nat.le_refl _⟩, ⟨by apply Kd.R_to; exact Kd.R_mono (Kd.R_far (p := ⟨gb136, 3, none⟩) (Kd.R_far (p := ⟨gb136, 2, none⟩) (Kd.R_far (p := ⟨gb136, 1, none⟩) (Kd.R_far (p := ⟨gb136, 0, none⟩) (Kd.R_types HO126.out BK136.out (by decide)) (fun _ hk => hk.2) (.int .u64 t129)) (fun _ hk => hk.2) (.int .i64 t130)) (fun _ hk => hk.2) (.int .i64 t131)) (fun _ hk => hk.2) (.slice Ao17 t132.length co17)) (fun _ hk => hk.1.2)⟩, ⟨by apply Kd.R_to; exact Kd.R_mono (Kd.R_far (p := ⟨gb136, 3, none⟩) (Kd.R_far (p := ⟨gb136, 2, none⟩) (Kd.R_far (p := ⟨gb136, 1, none⟩) (Kd.R_far (p := ⟨gb136, 0, none⟩) (Kd.R_types HO134.out BK136.out (by decide)) (fun _ hk => hk.2) (.int .u64 t129)) (fun _ hk => hk.2) (.int .i64 t130)) (fun _ hk => hk.2) (.int .i64 t131)) (fun _ hk => hk.2) (.slice Ao17 t132.length co17)) (fun _ hk => hk.1.2)⟩, ⟨by refine bT ?_; refine bR ?_ NB120_136.out _; refine bT ?_; refine bR ?_ NB120_136.out _; refine bT ?_; refine bR ?_ NB120_136.out _; refine bT ?_; refine bR ?_ NB120_136.out _; refine bT ?_; exact BK120.out⟩, ⟨by refine bT ?_; refine bR ?_ NB128_136.out _; refine bT ?_; refine bR ?_ NB128_136.out _; refine bT ?_; refine bR ?_ NB128_136.out _; refine bT ?_; refine bR ?_ NB128_136.out _; refine bT ?_; exact BK128.out⟩, ⟨by refine bT ?_; refine bU (cs := #[.int .u64 t129, .int .i64 t130, .int .i64 t131, .slice none 0 0]) ?_ 3 _ rfl; refine bT ?_; refine bU (cs := #[.int .u64 t129, .int .i64 t130, .int .i64 0, .slice none 0 0]) ?_ 2 _ rfl; refine bT ?_; refine bU (cs := #[.int .u64 t129, .int .i64 0, .int .i64 0, .slice none 0 0]) ?_ 1 _ rfl; refine bT ?_; refine bU (cs := #[.int .u64 0, .int .i64 0, .int .i64 0, .slice none 0 0]) ?_ 0 _ rfl; refine bT ?_; exact BK136.out⟩, ⟨bA⟩⟩
  ·rw [if_neg c18] at H
   have c18b0 : (t127 == 0) = false := beq_eq_false_iff_ne.mpr c18
   have c18b1 : (t127 != 0) = true := bne_iff_ne.mpr c18
   (first | rw [c18b0] | (simp only [i64_w, i32_w]; rw [c18b0]) | skip)
   have H' := Ax.mk H
   clear H
   go_wp2
   go_meet
   case rel => exact ⟨_, ((t135 != 0)), (by first | rfl | (simp; done) | (simp [*]; done)), H', ⟨by first | omega | exact Nat.le_refl _⟩, ⟨by apply Kd.R_to; exact Kd.R_mono (Kd.R_far (p := ⟨gb136, 3, none⟩) (Kd.R_far (p := ⟨gb136, 2, none⟩) (Kd.R_far (p := ⟨gb136, 1, none⟩) (Kd.R_far (p := ⟨gb136, 0, none⟩) (Kd.R_types HO126.out BK136.out (by decide)) (fun _ hk => hk.2) (.int .u64 t129)) (fun _ hk => hk.2) (.int .i64 t130)) (fun _ hk => hk.2) (.int .i64 t131)) (fun _ hk => hk.2) (.slice Ao17 t132.length co17)) (fun _ hk => hk.1.2)⟩, ⟨by apply Kd.R_to; exact Kd.R_mono (Kd.R_far (p := ⟨gb136, 3, none⟩) (Kd.R_far (p := ⟨gb136, 2, none⟩) (Kd.R_far (p := ⟨gb136, 1, none⟩) (Kd.R_far (p := ⟨gb136, 0, none⟩) (Kd.R_types HO134.out BK136.out (by decide)) (fun _ hk => hk.2) (.int .u64 t129)) (fun _ hk => hk.2) (.int .i64 t130)) (fun _ hk => hk.2) (.int .i64 t131)) (fun _ hk => hk.2) (.slice Ao17 t132.length co17)) (fun _ hk => hk.1.2)⟩, ⟨by refine bT ?_; refine bR ?_ NB120_136.out _; refine bT ?_; refine bR ?_ NB120_136.out _; refine bT ?_; refine bR ?_ NB120_136.out _; refine bT ?_; refine bR ?_ NB120_136.out _; refine bT ?_; exact BK120.out⟩, ⟨by refine bT ?_; refine bR ?_ NB128_136.out _; refine bT ?_; refine bR ?_ NB128_136.out _; refine bT ?_; refine bR ?_ NB128_136.out _; refine bT ?_; refine bR ?_ NB128_136.out _; refine bT ?_; exact BK128.out⟩, ⟨by refine bT ?_; refine bU (cs := #[.int .u64 t129, .int .i64 t130, .int .i64 t131, .slice none 0 0]) ?_ 3 _ rfl; refine bT ?_; refine bU (cs := #[.int .u64 t129, .int .i64 t130, .int .i64 0, .slice none 0 0]) ?_ 2 _ rfl; refine bT ?_; refine bU (cs := #[.int .u64 t129, .int .i64 0, .int .i64 0, .slice none 0 0]) ?_ 1 _ rfl; refine bT ?_; refine bU (cs := #[.int .u64 0, .int .i64 0, .int .i64 0, .slice none 0 0]) ?_ 0 _ rfl; refine bT ?_; exact BK136.out⟩, ⟨bA⟩⟩
 case rest =>
  clear HC5
  try clear c1
  try clear p2
  try clear c9
  try clear c14
  try clear c15
  try clear c16
  try clear c18
  try clear c18b0
  try clear c18b1
  try clear hcz10_0
  try clear hcz10_1
  try clear hcz10_2
  try clear hcz10_3
  try clear hcz16_0
  try clear hcz16_1
  try clear hcz16_2
  try clear hcz16_3
  try clear hfz10_0
  try clear hfz10_1
  try clear hfz10_2
  try clear hfz10_3
  try clear hfz16_0
  try clear hfz16_1
  try clear hfz16_2
  try clear hfz16_3
  obtain ⟨kq, x21_4, rfl, HA, HJ4, HO_129003, HO_137003, BK120, BK128, BK136, HB⟩ := hcut
  cases kq with
  | zero => exact absurd HA.out (by simp [head_Choose.j0])
  | succ kj4 =>
   have H := HA.out
   clear HA
   simp only [head_Choose.j0] at H
   by_cases c19 : x21_4 = true
   ·subst c19
    have H1 : (some (0, 0, 0, ([] : List (S53)), 0, 2)) = some (r1, r2, r3, r4, r5, r6) := by rw [if_pos rfl] at H; exact H
    clear H
    have H := H1
    clear H1
    simp only [Option.some.injEq, Prod.mk.injEq] at H
    obtain ⟨rfl, rfl, rfl, rfl, rfl, rfl⟩ := H
    have hnb20 := NB120_128.out
    have hnc20 := NB128_120.out
    have hnb21 := NB120_136.out
    have hnc21 := NB136_120.out
    have hcz22_0 : wc.cell? ⟨gb120, 0, none⟩ = some (.int .u64 0) := (bC BK120.out 0).trans rfl
    have hcz22_1 : wc.cell? ⟨gb120, 1, none⟩ = some (.int .i64 0) := (bC BK120.out 1).trans rfl
    have hcz22_2 : wc.cell? ⟨gb120, 2, none⟩ = some (.int .i64 0) := (bC BK120.out 2).trans rfl
    have hcz22_3 : wc.cell? ⟨gb120, 3, none⟩ = some (.slice none 0 0) := (bC BK120.out 3).trans rfl
    have hfz22_0 := bF BK120.out 0
    have hfz22_1 := bF BK120.out 1
    have hfz22_2 := bF BK120.out 2
    have hfz22_3 := bF BK120.out 3
    go_wp2
    refine bodyPost_ret (results_ctt rfl _ _ gb120 25 #[.int .u64 0, .int .i64 0, .int .i64 0, .slice none 0 0] (0, 0) _ rfl (by refine bT ?_; refine bU (cs := #[.int .u64 0, .int .i64 0, .int .i64 0, .slice none 0 0]) ?_ 3 _ rfl; refine bT ?_; refine bU (cs := #[.int .u64 0, .int .i64 0, .int .i64 0, .slice none 0 0]) ?_ 2 _ rfl; refine bT ?_; refine bU (cs := #[.int .u64 0, .int .i64 0, .int .i64 0, .slice none 0 0]) ?_ 1 _ rfl; refine bT ?_; refine bU (cs := #[.int .u64 0, .int .i64 0, .int .i64 0, .slice none 0 0]) ?_ 0 _ rfl; exact bT BK120.out) Tryd.underlying25 rfl (by kernel_rfl)) rfl ?_
    exact ⟨_, by first | rfl | (simp [errW_none, errW_some] <;> rfl) | (simp [*, errW_none, errW_some] <;> rfl), by first | exact Kd.R_nil _ _ _ _ _ | exact Kd.N_nil _ _ _ _ _ | exact Kd.V_nil _ _ _ _ _ | exact Kd.Q_nil _ _ _ _ _ | exact Kd.S_nil _ _ _ _ _, bA⟩
   ·replace c19 := Bool.eq_false_iff.mpr c19
    subst c19
    have H1 : (if t127 = 0 then (if t135 = 0 then (if t129 > t121 then (some (t129, t130, t131, t132, 1, 0)) else (some (t121, t122, t123, t124, 0, 0))) else (some (t121, t122, t123, t124, 0, 0))) else (some (t129, t130, t131, t132, 1, 0))) = some (r1, r2, r3, r4, r5, r6) := by rw [if_neg (show ¬ (false = true) by decide)] at H; exact H
    clear H
    have H := H1
    clear H1
    by_cases c23 : t127 = 0
    ·rw [if_pos c23] at H
     have c23b0 : (t127 == 0) = true := beq_iff_eq.mpr c23
     have c23b1 : (t127 != 0) = false := bne_eq_false_iff_eq.mpr c23
     clear c23
     by_cases c24 : t135 = 0
     ·rw [if_pos c24] at H
      have c24b0 : (t135 == 0) = true := beq_iff_eq.mpr c24
      have c24b1 : (t135 != 0) = false := bne_eq_false_iff_eq.mpr c24
      clear c24
      by_cases c25 : t129 > t121
      ·rw [if_pos c25] at H
       have c25b0 : decide (t121 < t129) = true := decide_eq_true c25
       clear c25
       simp only [Option.some.injEq, Prod.mk.injEq] at H
       obtain ⟨rfl, rfl, rfl, rfl, rfl, rfl⟩ := H
       have hnb26 := NB136_120.out
       have hnc26 := NB120_136.out
       have hnb27 := NB136_128.out
       have hnc27 := NB128_136.out
       have hcz28_0 : wc.cell? ⟨gb136, 0, none⟩ = some (.int .u64 t129) := (bC BK136.out 0).trans rfl
       have hcz28_1 : wc.cell? ⟨gb136, 1, none⟩ = some (.int .i64 t130) := (bC BK136.out 1).trans rfl
       have hcz28_2 : wc.cell? ⟨gb136, 2, none⟩ = some (.int .i64 t131) := (bC BK136.out 2).trans rfl
       have hcz28_3 : wc.cell? ⟨gb136, 3, none⟩ = some (.slice Ao17 t132.length co17) := (bC BK136.out 3).trans rfl
       have hfz28_0 := bF BK136.out 0
       have hfz28_1 := bF BK136.out 1
       have hfz28_2 := bF BK136.out 2
       have hfz28_3 := bF BK136.out 3
       have hnb29 := NB128_120.out
       have hnc29 := NB120_128.out
       have hcz30_0 : wc.cell? ⟨gb128, 0, none⟩ = some (.int .u64 t121) := (bC BK128.out 0).trans rfl
       have hcz30_1 : wc.cell? ⟨gb128, 1, none⟩ = some (.int .i64 t122) := (bC BK128.out 1).trans rfl
       have hcz30_2 : wc.cell? ⟨gb128, 2, none⟩ = some (.int .i64 t123) := (bC BK128.out 2).trans rfl
       have hcz30_3 : wc.cell? ⟨gb128, 3, none⟩ = some (.slice Ao11 t124.length co11) := (bC BK128.out 3).trans rfl
       have hfz30_0 := bF BK128.out 0
       have hfz30_1 := bF BK128.out 1
       have hfz30_2 := bF BK128.out 2
       have hfz30_3 := bF BK128.out 3
       have hcz31_0 : wc.cell? ⟨gb120, 0, none⟩ = some (.int .u64 0) := (bC BK120.out 0).trans rfl
       have hcz31_1 : wc.cell? ⟨gb120, 1, none⟩ = some (.int .i64 0) := (bC BK120.out 1).trans rfl
       have hcz31_2 : wc.cell? ⟨gb120, 2, none⟩ = some (.int .i64 0) := (bC BK120.out 2).trans rfl
       have hcz31_3 : wc.cell? ⟨gb120, 3, none⟩ = some (.slice none 0 0) := (bC BK120.out 3).trans rfl
       have hfz31_0 := bF BK120.out 0
       have hfz31_1 := bF BK120.out 1
       have hfz31_2 := bF BK120.out 2
       have hfz31_3 := bF BK120.out 3
       go_wp2
       refine bodyPost_ret (results_ctt rfl _ _ gb120 25 #[.int .u64 t129, .int .i64 t130, .int .i64 t131, .slice Ao17 t132.length co17] (0, 0) _ rfl (by refine bT ?_; refine bU (cs := #[.int .u64 t129, .int .i64 t130, .int .i64 t131, .slice none 0 0]) ?_ 3 _ rfl; refine bT ?_; refine bU (cs := #[.int .u64 t129, .int .i64 t130, .int .i64 0, .slice none 0 0]) ?_ 2 _ rfl; refine bT ?_; refine bU (cs := #[.int .u64 t129, .int .i64 0, .int .i64 0, .slice none 0 0]) ?_ 1 _ rfl; refine bT ?_; refine bU (cs := #[.int .u64 0, .int .i64 0, .int .i64 0, .slice none 0 0]) ?_ 0 _ rfl; exact bT BK120.out) Tryd.underlying25 rfl (by kernel_rfl)) rfl ?_
       exact ⟨_, by first | rfl | (simp [errW_none, errW_some] <;> rfl) | (simp [*, errW_none, errW_some] <;> rfl), by apply Kd.R_to; exact Kd.R_mono (Kd.R_far (p := ⟨gb120, 3, none⟩) (Kd.R_far (p := ⟨gb120, 2, none⟩) (Kd.R_far (p := ⟨gb120, 1, none⟩) (Kd.R_far (p := ⟨gb120, 0, none⟩) (Kd.R_types HO_137003.out BK120.out (by decide)) (fun _ hk => hk.2) (.int .u64 t129)) (fun _ hk => hk.2) (.int .i64 t130)) (fun _ hk => hk.2) (.int .i64 t131)) (fun _ hk => hk.2) (.slice Ao17 t132.length co17)) (fun _ hk => trivial), bA⟩
      ·rw [if_neg c25] at H
       have c25b0 : decide (t121 < t129) = false := decide_eq_false c25
       clear c25
       simp only [Option.some.injEq, Prod.mk.injEq] at H
       obtain ⟨rfl, rfl, rfl, rfl, rfl, rfl⟩ := H
       have hnb32 := NB136_120.out
       have hnc32 := NB120_136.out
       have hnb33 := NB136_128.out
       have hnc33 := NB128_136.out
       have hcz34_0 : wc.cell? ⟨gb136, 0, none⟩ = some (.int .u64 t129) := (bC BK136.out 0).trans rfl
       have hcz34_1 : wc.cell? ⟨gb136, 1, none⟩ = some (.int .i64 t130) := (bC BK136.out 1).trans rfl
       have hcz34_2 : wc.cell? ⟨gb136, 2, none⟩ = some (.int .i64 t131) := (bC BK136.out 2).trans rfl
       have hcz34_3 : wc.cell? ⟨gb136, 3, none⟩ = some (.slice Ao17 t132.length co17) := (bC BK136.out 3).trans rfl
       have hfz34_0 := bF BK136.out 0
       have hfz34_1 := bF BK136.out 1
       have hfz34_2 := bF BK136.out 2
       have hfz34_3 := bF BK136.out 3
       have hnb35 := NB128_120.out
       have hnc35 := NB120_128.out
       have hcz36_0 : wc.cell? ⟨gb128, 0, none⟩ = some (.int .u64 t121) := (bC BK128.out 0).trans rfl
       have hcz36_1 : wc.cell? ⟨gb128, 1, none⟩ = some (.int .i64 t122) := (bC BK128.out 1).trans rfl
       have hcz36_2 : wc.cell? ⟨gb128, 2, none⟩ = some (.int .i64 t123) := (bC BK128.out 2).trans rfl
       have hcz36_3 : wc.cell? ⟨gb128, 3, none⟩ = some (.slice Ao11 t124.length co11) := (bC BK128.out 3).trans rfl
       have hfz36_0 := bF BK128.out 0
       have hfz36_1 := bF BK128.out 1
       have hfz36_2 := bF BK128.out 2
       have hfz36_3 := bF BK128.out 3
       have hcz37_0 : wc.cell? ⟨gb120, 0, none⟩ = some (.int .u64 0) := (bC BK120.out 0).trans rfl
       have hcz37_1 : wc.cell? ⟨gb120, 1, none⟩ = some (.int .i64 0) := (bC BK120.out 1).trans rfl
       have hcz37_2 : wc.cell? ⟨gb120, 2, none⟩ = some (.int .i64 0) := (bC BK120.out 2).trans rfl
       have hcz37_3 : wc.cell? ⟨gb120, 3, none⟩ = some (.slice none 0 0) := (bC BK120.out 3).trans rfl
       have hfz37_0 := bF BK120.out 0
       have hfz37_1 := bF BK120.out 1
       have hfz37_2 := bF BK120.out 2
       have hfz37_3 := bF BK120.out 3
       go_wp2
       refine bodyPost_ret (results_ctt rfl _ _ gb120 25 #[.int .u64 t121, .int .i64 t122, .int .i64 t123, .slice Ao11 t124.length co11] (0, 0) _ rfl (by refine bT ?_; refine bU (cs := #[.int .u64 t121, .int .i64 t122, .int .i64 t123, .slice none 0 0]) ?_ 3 _ rfl; refine bT ?_; refine bU (cs := #[.int .u64 t121, .int .i64 t122, .int .i64 0, .slice none 0 0]) ?_ 2 _ rfl; refine bT ?_; refine bU (cs := #[.int .u64 t121, .int .i64 0, .int .i64 0, .slice none 0 0]) ?_ 1 _ rfl; refine bT ?_; refine bU (cs := #[.int .u64 0, .int .i64 0, .int .i64 0, .slice none 0 0]) ?_ 0 _ rfl; exact bT BK120.out) Tryd.underlying25 rfl (by kernel_rfl)) rfl ?_
       exact ⟨_, by first | rfl | (simp [errW_none, errW_some] <;> rfl) | (simp [*, errW_none, errW_some] <;> rfl), by apply Kd.R_to; exact Kd.R_mono (Kd.R_far (p := ⟨gb120, 3, none⟩) (Kd.R_far (p := ⟨gb120, 2, none⟩) (Kd.R_far (p := ⟨gb120, 1, none⟩) (Kd.R_far (p := ⟨gb120, 0, none⟩) (Kd.R_types HO_129003.out BK120.out (by decide)) (fun _ hk => hk.2) (.int .u64 t121)) (fun _ hk => hk.2) (.int .i64 t122)) (fun _ hk => hk.2) (.int .i64 t123)) (fun _ hk => hk.2) (.slice Ao11 t124.length co11)) (fun _ hk => trivial), bA⟩
     ·rw [if_neg c24] at H
      have c24b0 : (t135 == 0) = false := beq_eq_false_iff_ne.mpr c24
      have c24b1 : (t135 != 0) = true := bne_iff_ne.mpr c24
      simp only [Option.some.injEq, Prod.mk.injEq] at H
      obtain ⟨rfl, rfl, rfl, rfl, rfl, rfl⟩ := H
      have hnb38 := NB128_120.out
      have hnc38 := NB120_128.out
      have hnb39 := NB128_136.out
      have hnc39 := NB136_128.out
      have hcz40_0 : wc.cell? ⟨gb128, 0, none⟩ = some (.int .u64 t121) := (bC BK128.out 0).trans rfl
      have hcz40_1 : wc.cell? ⟨gb128, 1, none⟩ = some (.int .i64 t122) := (bC BK128.out 1).trans rfl
      have hcz40_2 : wc.cell? ⟨gb128, 2, none⟩ = some (.int .i64 t123) := (bC BK128.out 2).trans rfl
      have hcz40_3 : wc.cell? ⟨gb128, 3, none⟩ = some (.slice Ao11 t124.length co11) := (bC BK128.out 3).trans rfl
      have hfz40_0 := bF BK128.out 0
      have hfz40_1 := bF BK128.out 1
      have hfz40_2 := bF BK128.out 2
      have hfz40_3 := bF BK128.out 3
      have hnb41 := NB120_136.out
      have hnc41 := NB136_120.out
      have hcz42_0 : wc.cell? ⟨gb120, 0, none⟩ = some (.int .u64 0) := (bC BK120.out 0).trans rfl
      have hcz42_1 : wc.cell? ⟨gb120, 1, none⟩ = some (.int .i64 0) := (bC BK120.out 1).trans rfl
      have hcz42_2 : wc.cell? ⟨gb120, 2, none⟩ = some (.int .i64 0) := (bC BK120.out 2).trans rfl
      have hcz42_3 : wc.cell? ⟨gb120, 3, none⟩ = some (.slice none 0 0) := (bC BK120.out 3).trans rfl
      have hfz42_0 := bF BK120.out 0
      have hfz42_1 := bF BK120.out 1
      have hfz42_2 := bF BK120.out 2
      have hfz42_3 := bF BK120.out 3
      go_wp2
      refine bodyPost_ret (results_ctt rfl _ _ gb120 25 #[.int .u64 t121, .int .i64 t122, .int .i64 t123, .slice Ao11 t124.length co11] (0, 0) _ rfl (by refine bT ?_; refine bU (cs := #[.int .u64 t121, .int .i64 t122, .int .i64 t123, .slice none 0 0]) ?_ 3 _ rfl; refine bT ?_; refine bU (cs := #[.int .u64 t121, .int .i64 t122, .int .i64 0, .slice none 0 0]) ?_ 2 _ rfl; refine bT ?_; refine bU (cs := #[.int .u64 t121, .int .i64 0, .int .i64 0, .slice none 0 0]) ?_ 1 _ rfl; refine bT ?_; refine bU (cs := #[.int .u64 0, .int .i64 0, .int .i64 0, .slice none 0 0]) ?_ 0 _ rfl; exact bT BK120.out) Tryd.underlying25 rfl (by kernel_rfl)) rfl ?_
      exact ⟨_, by first | rfl | (simp [errW_none, errW_some] <;> rfl) | (simp [*, errW_none, errW_some] <;> rfl), by apply Kd.R_to; exact Kd.R_mono (Kd.R_far (p := ⟨gb120, 3, none⟩) (Kd.R_far (p := ⟨gb120, 2, none⟩) (Kd.R_far (p := ⟨gb120, 1, none⟩) (Kd.R_far (p := ⟨gb120, 0, none⟩) (Kd.R_types HO_129003.out BK120.out (by decide)) (fun _ hk => hk.2) (.int .u64 t121)) (fun _ hk => hk.2) (.int .i64 t122)) (fun _ hk => hk.2) (.int .i64 t123)) (fun _ hk => hk.2) (.slice Ao11 t124.length co11)) (fun _ hk => trivial), bA⟩
    ·rw [if_neg c23] at H
     have c23b0 : (t127 == 0) = false := beq_eq_false_iff_ne.mpr c23
     have c23b1 : (t127 != 0) = true := bne_iff_ne.mpr c23
     simp only [Option.some.injEq, Prod.mk.injEq] at H
     obtain ⟨rfl, rfl, rfl, rfl, rfl, rfl⟩ := H
     have hnb43 := NB136_120.out
     have hnc43 := NB120_136.out
     have hnb44 := NB136_128.out
     have hnc44 := NB128_136.out
     have hcz45_0 : wc.cell? ⟨gb136, 0, none⟩ = some (.int .u64 t129) := (bC BK136.out 0).trans rfl
     have hcz45_1 : wc.cell? ⟨gb136, 1, none⟩ = some (.int .i64 t130) := (bC BK136.out 1).trans rfl
     have hcz45_2 : wc.cell? ⟨gb136, 2, none⟩ = some (.int .i64 t131) := (bC BK136.out 2).trans rfl
     have hcz45_3 : wc.cell? ⟨gb136, 3, none⟩ = some (.slice Ao17 t132.length co17) := (bC BK136.out 3).trans rfl
     have hfz45_0 := bF BK136.out 0
     have hfz45_1 := bF BK136.out 1
     have hfz45_2 := bF BK136.out 2
     have hfz45_3 := bF BK136.out 3
     have hnb46 := NB120_128.out
     have hnc46 := NB128_120.out
     have hcz47_0 : wc.cell? ⟨gb120, 0, none⟩ = some (.int .u64 0) := (bC BK120.out 0).trans rfl
     have hcz47_1 : wc.cell? ⟨gb120, 1, none⟩ = some (.int .i64 0) := (bC BK120.out 1).trans rfl
     have hcz47_2 : wc.cell? ⟨gb120, 2, none⟩ = some (.int .i64 0) := (bC BK120.out 2).trans rfl
     have hcz47_3 : wc.cell? ⟨gb120, 3, none⟩ = some (.slice none 0 0) := (bC BK120.out 3).trans rfl
     have hfz47_0 := bF BK120.out 0
     have hfz47_1 := bF BK120.out 1
     have hfz47_2 := bF BK120.out 2
     have hfz47_3 := bF BK120.out 3
     go_wp2
     refine bodyPost_ret (results_ctt rfl _ _ gb120 25 #[.int .u64 t129, .int .i64 t130, .int .i64 t131, .slice Ao17 t132.length co17] (0, 0) _ rfl (by refine bT ?_; refine bU (cs := #[.int .u64 t129, .int .i64 t130, .int .i64 t131, .slice none 0 0]) ?_ 3 _ rfl; refine bT ?_; refine bU (cs := #[.int .u64 t129, .int .i64 t130, .int .i64 0, .slice none 0 0]) ?_ 2 _ rfl; refine bT ?_; refine bU (cs := #[.int .u64 t129, .int .i64 0, .int .i64 0, .slice none 0 0]) ?_ 1 _ rfl; refine bT ?_; refine bU (cs := #[.int .u64 0, .int .i64 0, .int .i64 0, .slice none 0 0]) ?_ 0 _ rfl; exact bT BK120.out) Tryd.underlying25 rfl (by kernel_rfl)) rfl ?_
     exact ⟨_, by first | rfl | (simp [errW_none, errW_some] <;> rfl) | (simp [*, errW_none, errW_some] <;> rfl), by apply Kd.R_to; exact Kd.R_mono (Kd.R_far (p := ⟨gb120, 3, none⟩) (Kd.R_far (p := ⟨gb120, 2, none⟩) (Kd.R_far (p := ⟨gb120, 1, none⟩) (Kd.R_far (p := ⟨gb120, 0, none⟩) (Kd.R_types HO_137003.out BK120.out (by decide)) (fun _ hk => hk.2) (.int .u64 t129)) (fun _ hk => hk.2) (.int .i64 t130)) (fun _ hk => hk.2) (.int .i64 t131)) (fun _ hk => hk.2) (.slice Ao17 t132.length co17)) (fun _ hk => trivial), bA⟩
end Go.Proofs.YtcgejogmiglalaaDoor.Fn
end
section
namespace Go.Proofs.YtcgejogmiglalaaDoor.Fn
open Go.RowKit Go.Proofs.YtcgejogmiglalaaDoorW.PrintWords Go.Proofs.YtcgejogmiglalaaDoorW.PrintLast Go.Proofs.YtcgejogmiglalaaDoorW.PrintMore Go.Proofs.YtcgejogmiglalaaDoor.Lf
attribute [local go_sem] max2_int min2_int max_two min_two max_three min_three max_four min_four   -- for this text's walks alone
set_option linter.unusedVariables false
set_option linter.unusedSimpArgs false
def r6_Choose.j0 : Nat → Int → Int → Bool → Int → Int → Int → List (S53) → Int → Int → Int → List (S53) → Option (Int × Int × Int × (List (S53)) × Int × Int)
 | 0, _, _, _, _, _, _, _, _, _, _, _ => none
 | k + 1, x8, x10, x26, x266000, x266001, x266002, x266003, x274000, x274001, x274002, x274003 => if x26 = true then (some (0, 0, 0, ([] : List (S53)), 0, 2)) else (if x8 = 0 then (if x10 = 0 then (if x274000 > x266000 then (some (x274000, x274001, x274002, x274003, 1, 0)) else (some (x266000, x266001, x266002, x266003, 0, 0))) else (some (x266000, x266001, x266002, x266003, 0, 0))) else (some (x274000, x274001, x274002, x274003, 1, 0)))
def r6_Choose.f (k : Nat) (a0 : ByteArray) (a1 : ByteArray) : Option (Int × Int × Int × (List (S53)) × Int × Int) := (r6_Take.f k a0).bind fun bt258 => ((r6_Take.f k a1).bind fun bt266 => (if bt258.2.2.2.2 = 0 then (r6_Choose.j0 k bt258.2.2.2.2 bt266.2.2.2.2 false bt258.1 bt258.2.1 bt258.2.2.1 bt258.2.2.2.1 bt266.1 bt266.2.1 bt266.2.2.1 bt266.2.2.2.1) else (r6_Choose.j0 k bt258.2.2.2.2 bt266.2.2.2.2 (bt266.2.2.2.2 != 0) bt258.1 bt258.2.1 bt258.2.2.1 bt258.2.2.2.1 bt266.1 bt266.2.1 bt266.2.2.1 bt266.2.2.2.1)))
theorem r6_Choose.mono_l : ∀ k, (∀ y0 y1 y2 y3 y4 y5 y6 y7 y8 y9 y10, LeO (r6_Choose.j0 k y0 y1 y2 y3 y4 y5 y6 y7 y8 y9 y10) (r6_Choose.j0 (k + 1) y0 y1 y2 y3 y4 y5 y6 y7 y8 y9 y10))
 | 0 => fun _ _ _ _ _ _ _ _ _ _ _ r h => by simp [r6_Choose.j0] at h
 | k + 1 => by
  have ih0 := r6_Choose.mono_l k
  ·intro y0 y1 y2 y3 y4 y5 y6 y7 y8 y9 y10
   unfold r6_Choose.j0
   repeat' first
   | (with_reducible exact ih0 _ _ _ _ _ _ _ _ _ _ _)
   | (with_reducible exact r6_Take.mono _ _)
   | (with_reducible exact LeO.refl _)
   | (with_reducible exact LeO.none _)
   | (with_reducible refine LeO.ite ?_ ?_)
   | (with_reducible refine LeO.bind ?_ (fun _ => ?_))
   | exact ih0 _ _ _ _ _ _ _ _ _ _ _
   | exact r6_Take.mono _ _
   | exact LeO.none _
   | refine LeO.ite ?_ ?_
   | refine LeO.bind ?_ (fun _ => ?_)
theorem r6_Choose.mono : ∀ a0 a1 k, LeO (r6_Choose.f k a0 a1) (r6_Choose.f (k + 1) a0 a1) := by
 intro a0 a1 k
 have ih0 := r6_Choose.mono_l k
 unfold r6_Choose.f
 repeat' first
   | (with_reducible exact ih0 _ _ _ _ _ _ _ _ _ _ _)
   | (with_reducible exact r6_Take.mono _ _)
   | (with_reducible exact LeO.refl _)
   | (with_reducible exact LeO.none _)
   | (with_reducible refine LeO.ite ?_ ?_)
   | (with_reducible refine LeO.bind ?_ (fun _ => ?_))
   | exact ih0 _ _ _ _ _ _ _ _ _ _ _
   | exact r6_Take.mono _ _
   | exact LeO.none _
   | refine LeO.ite ?_ ?_
   | refine LeO.bind ?_ (fun _ => ?_)
end Go.Proofs.YtcgejogmiglalaaDoor.Fn
end
section
namespace Go.Proofs.YtcgejogmiglalaaDoor.Fn
open Go.RowKit Go.Proofs.YtcgejogmiglalaaDoorW.PrintWords Go.Proofs.YtcgejogmiglalaaDoorW.PrintLast Go.Proofs.YtcgejogmiglalaaDoorW.PrintMore Go.Proofs.YtcgejogmiglalaaDoor.Lf
attribute [local go_sem] max2_int min2_int max_two min_two max_three min_three max_four min_four   -- for this text's walks alone
set_option linter.unusedVariables false
set_option linter.unusedSimpArgs false
attribute [local go_sem high] eqA53
def l6_sameSpans.l0 : Nat → List (S53) → List (S53) → Int → Option (Bool)
 | 0, _, _, _ => none
 | k + 1, x0, x1, x5 => if x5 < (x0.length : Int) then (if 0 ≤ x5 then (if x5 < (x1.length : Int) then (if (!(((rd_T53 x0 x5).f0) == ((rd_T53 x1 x5).f0)) || (!(((rd_T53 x0 x5).f1) == ((rd_T53 x1 x5).f1)))) = true then (some false) else (l6_sameSpans.l0 k x0 x1 (wrap64 (x5 + 1)))) else (none)) else (none)) else (some true)
def l6_sameSpans.f (k : Nat) (l0 : List (S53)) (l1 : List (S53)) : Option (Bool) := if (l0.length : Int) = (l1.length : Int) then (l6_sameSpans.l0 k l0 l1 0) else (some false)
theorem l6_sameSpans.mono_l : ∀ k, (∀ y0 y1 y2, LeO (l6_sameSpans.l0 k y0 y1 y2) (l6_sameSpans.l0 (k + 1) y0 y1 y2))
 | 0 => fun _ _ _ r h => by simp [l6_sameSpans.l0] at h
 | k + 1 => by
  have ih0 := l6_sameSpans.mono_l k
  ·intro y0 y1 y2
   unfold l6_sameSpans.l0
   repeat' first
   | (with_reducible exact ih0 _ _ _)
   | (with_reducible exact LeO.refl _)
   | (with_reducible exact LeO.none _)
   | (with_reducible refine LeO.ite ?_ ?_)
   | (with_reducible refine LeO.bind ?_ (fun _ => ?_))
   | exact ih0 _ _ _
   | exact LeO.none _
   | refine LeO.ite ?_ ?_
   | refine LeO.bind ?_ (fun _ => ?_)
theorem l6_sameSpans.mono : ∀ a0 a1 k, LeO (l6_sameSpans.f k a0 a1) (l6_sameSpans.f (k + 1) a0 a1) := by
 intro a0 a1 k
 have ih0 := l6_sameSpans.mono_l k
 unfold l6_sameSpans.f
 repeat' first
   | (with_reducible exact ih0 _ _ _)
   | (with_reducible exact LeO.refl _)
   | (with_reducible exact LeO.none _)
   | (with_reducible refine LeO.ite ?_ ?_)
   | (with_reducible refine LeO.bind ?_ (fun _ => ?_))
   | exact ih0 _ _ _
   | exact LeO.none _
   | refine LeO.ite ?_ ?_
   | refine LeO.bind ?_ (fun _ => ?_)
def l6_same.f (k : Nat) (a0_0 : Int) (a0_1 : Int) (a0_2 : Int) (l0_3 : List (S53)) (a1_0 : Int) (a1_1 : Int) (a1_2 : Int) (l1_3 : List (S53)) : Option (Bool) := if a0_0 = a1_0 then (if a0_1 = a1_1 then (if a0_2 = a1_2 then ((l6_sameSpans.f k l0_3 l1_3).bind fun t278 => (some t278)) else (some false)) else (some false)) else (some false)
theorem l6_same.mono : ∀ a0 a1 a2 a3 a4 a5 a6 a7 k, LeO (l6_same.f k a0 a1 a2 a3 a4 a5 a6 a7) (l6_same.f (k + 1) a0 a1 a2 a3 a4 a5 a6 a7) := by
 intro a0 a1 a2 a3 a4 a5 a6 a7 k
 unfold l6_same.f
 repeat' first
   | (with_reducible exact l6_sameSpans.mono _ _ _)
   | (with_reducible exact LeO.refl _)
   | (with_reducible exact LeO.none _)
   | (with_reducible refine LeO.ite ?_ ?_)
   | (with_reducible refine LeO.bind ?_ (fun _ => ?_))
   | exact l6_sameSpans.mono _ _ _
   | exact LeO.none _
   | refine LeO.ite ?_ ?_
   | refine LeO.bind ?_ (fun _ => ?_)
end Go.Proofs.YtcgejogmiglalaaDoor.Fn
end
