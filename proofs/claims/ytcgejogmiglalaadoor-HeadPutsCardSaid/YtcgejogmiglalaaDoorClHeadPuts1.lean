-- Packed by pack.py, a program of this session, out of texts of this claim.
import Derived.Test.YtcgejogmiglalaaDoorProg
import Derived.Below
import Derived.Deep.Draws
import Derived.Deep.AppendLies
import Derived.Maps.AppendAt
import Derived.OwnWalk
import Derived.Laws.BytesArg
import Derived.Laws.MakeOwn
import Derived.Laws.OwnMore
import Derived.Deep.OwnRows
import Derived.Tactics
import Derived.Lib.ConvBytes
import Derived.Laws.Slices
import Derived.WalkKit
import Derived.KernelRfl
import Derived.RowKit3
import Derived.Deep.LoopGhost
import Derived.Deep.QuietTactic
import Derived.BigQuiet
import Derived.WideLaws
import Derived.Deep.DeepCutAuto
import Derived.Deep.CutBlock
import Derived.Deep.RegionHeld3
import Derived.Laws.Rows
import Derived.Lib.AppendStr
import Derived.ArgAppend
import Derived.Laws.IdiomCopy
import Derived.OrdersHeld
import Derived.Laws.BitsLemmas
import Derived.RowKit
import Derived.Test.YtcgejogmiglalaaDoorLfLe
import Derived.Test.YtcgejogmiglalaaDoorLfSum
import Derived.Test.YtcgejogmiglalaaDoorClHeadPutsLfBytes
import Derived.Test.YtcgejogmiglalaaDoorClHeadPuts0
import Derived.LoopTactic
import Derived.Lib.Hide
import Derived.Test.YtcgejogmiglalaaDoorLfShelf
import Derived.Test.YtcgejogmiglalaaDoorLfBuild
import Derived.Lib.Repeat
section
-- Written by printx.py, a program of this session over the kit's print: each Go function as a plain Lean function, and that the Go code computes it.
namespace Go.Proofs.YtcgejogmiglalaaDoor.Fn
open Go.RowKit Go.Proofs.YtcgejogmiglalaaDoorW.PrintWords Go.Proofs.YtcgejogmiglalaaDoorW.PrintLast Go.Proofs.YtcgejogmiglalaaDoorW.PrintMore Go.Proofs.YtcgejogmiglalaaDoor.Lf
attribute [local go_sem] max2_int min2_int max_two min_two max_three min_three max_four min_four   -- for this text's walks alone
set_option linter.unusedVariables false
set_option linter.unusedSimpArgs false
def errW : Option Int → Value
 | none => .nilIface
 | some c => .iface 0 (.int .i64 c)
theorem errW_none : errW none = .nilIface := rfl
theorem errW_some (c : Int) : errW (some c) = .iface 0 (.int .i64 c) := rfl
theorem info4 : (Tryd.prog.info? 4).map (fun i => (i.zero, i.size, i.bytes)) = some (some (.bool false), 1, 1) := by kernel_rfl
theorem info5 : (Tryd.prog.info? 5).map (fun i => (i.zero, i.size, i.bytes)) = some (some (.int .u8 0), 1, 1) := by kernel_rfl
theorem info53 : (Tryd.prog.info? 53).map (fun i => (i.zero, i.size, i.bytes)) = some (some (.agg #[(.int .i64 0), (.int .i64 0)]), 2, 16) := by kernel_rfl
structure S53 where
 f0 : Int
 f1 : Int
def z53 : S53 := ⟨(0 : Int), (0 : Int)⟩
def k53 : Kd S53 := Kd.iso (Kd.pair (Kd.int .i64) (Kd.int .i64)) (fun x : S53 => (x.f0, x.f1))
theorem k53_heap : Kd.Heap k53 := Kd.heap_iso _ (Kd.heap_pair (Kd.heap_int .i64) (Kd.heap_int .i64))
theorem k53_open {w : World} {x : S53} {cs : List Value} (h : k53.K w x cs) : cs = [.int .i64 x.f0, .int .i64 x.f1] := by
 obtain ⟨_, _, rfl, rfl, rfl⟩ := h
 exact rfl
theorem k53_openM {w : World} {base : Nat} {ok : Nat → Prop} {x : S53} {cs : List Value} (h : k53.M w base ok x cs) : cs = [.int .i64 x.f0, .int .i64 x.f1] := by
 obtain ⟨_, _, rfl, rfl, rfl⟩ := h
 exact rfl
theorem k53_mk (w : World) (x : S53)  : k53.K w x [.int .i64 x.f0, .int .i64 x.f1] := ⟨[.int .i64 x.f0], [.int .i64 x.f1], rfl, rfl, rfl⟩
theorem k53_mkM (w : World) (base : Nat) (ok : Nat → Prop) (x : S53)  : k53.M w base ok x [.int .i64 x.f0, .int .i64 x.f1] := ⟨[.int .i64 x.f0], [.int .i64 x.f1], rfl, rfl, rfl⟩
def rd_T53 (xs : List S53) (i : Int) : S53 := xs.getD i.toNat z53
theorem at_T53 {w : World} {A : Option Addr} {n : Nat} {xs : List S53} (h : Kd.C k53 w A n xs) (i : Int) (h0 : 0 ≤ i) (h1 : i < n) : ∃ ad , A = some ad ∧ w.cell? (ad.add (i.toNat * 2)) = some (.int .i64 (rd_T53 xs i).f0) ∧ w.cell? ⟨(ad.add (i.toNat * 2)).block, (ad.add (i.toNat * 2)).off + 1, none⟩ = some (.int .i64 (rd_T53 xs i).f1) := by
 obtain ⟨ad, c, e, _, hK, hc0⟩ := Kd.C_get h z53 i h0 h1
 have hc : ∀ j u, c[j]? = some u → w.cell? (ad.add (i.toNat * 2 + j)) = some u := hc0
 obtain rfl := k53_open hK
 exact ⟨ad, e, hc 0 _ rfl, by rw [← add_field _ _ 1 (by omega)]; exact hc 1 _ rfl⟩
def rd_L3 (xs : List (List S53)) (i : Int) : (List S53) := xs.getD i.toNat ([] : List S53)
structure S25 where
 f0 : Int
 f1 : Int
 f2 : Int
 f3 : (List S53)
def z25 : S25 := ⟨(0 : Int), (0 : Int), (0 : Int), ([] : List S53)⟩
def k25 : Kd S25 := Kd.iso (Kd.pair (Kd.int .u64) (Kd.pair (Kd.int .i64) (Kd.pair (Kd.int .i64) (Kd.slice 53 k53)))) (fun x : S25 => (x.f0, x.f1, x.f2, x.f3))
def rd_T25 (xs : List S25) (i : Int) : S25 := xs.getD i.toNat z25
structure S31 where
 f0 : Int
 f1 : Int
 f2 : Int
 f3 : (List S53)
def z31 : S31 := ⟨(0 : Int), (0 : Int), (0 : Int), ([] : List S53)⟩
def k31 : Kd S31 := Kd.iso (Kd.pair (Kd.int .u64) (Kd.pair (Kd.int .i64) (Kd.pair (Kd.int .i64) (Kd.slice 53 k53)))) (fun x : S31 => (x.f0, x.f1, x.f2, x.f3))
def rd_T31 (xs : List S31) (i : Int) : S31 := xs.getD i.toNat z31
def seal_Put.f (a0 : ByteArray) : Option (ByteArray) := (seal_Sum.f a0).bind fun t108 => ((le_Put.f (IntKind.u64.wrap (t108)) 4).bind fun t109 => (if a0.size + t109.size ≤ 9223372036854775807 then (some (a0 ++ t109)) else (none)))
set_option maxHeartbeats 8000000 in
set_option maxRecDepth 100000 in
theorem seal_Put.calls (a0 : ByteArray) (r : ByteArray) (w : World) (h : seal_Put.f a0 = some r) :
  Calls Tryd.prog 25 #[.string a0] w fun e w' => e = .returned (.string r) ∧ Below w.heap.size w w' := by
 have HB := Ax.mk (Below.refl w.heap.size w)
 have H : ((seal_Sum.f a0).bind fun t108 => ((le_Put.f (IntKind.u64.wrap (t108)) 4).bind fun t109 => (if a0.size + t109.size ≤ 9223372036854775807 then (some (a0 ++ t109)) else (none)))) = some r := h
 clear h
 replace H := Option.bind_eq_some_iff.mp H
 obtain ⟨t108, A20, H⟩ := H
 replace H : ((le_Put.f (IntKind.u64.wrap (t108)) 4).bind fun t109 => (if a0.size + t109.size ≤ 9223372036854775807 then (some (a0 ++ t109)) else (none))) = some r := H
 have A2 := Ax.mk A20
 clear A20
 replace H := Option.bind_eq_some_iff.mp H
 obtain ⟨t109, A30, H⟩ := H
 replace H : (if a0.size + t109.size ≤ 9223372036854775807 then (some (a0 ++ t109)) else (none)) = some r := H
 have A3 := Ax.mk A30
 clear A30
 by_cases c4 : a0.size + t109.size ≤ 9223372036854775807
 ·rw [if_pos c4] at H
  have c4b0 := eq_true c4
  have c4b1 : decide (a0.size + t109.size ≤ 9223372036854775807) = true := decide_eq_true c4
  try have c4b2 : (9223372036854775807 < a0.size + t109.size) = False := eq_false (Nat.not_lt.2 c4)
  obtain rfl := Option.some.inj H
  go_enter Tryd.func25, Tryd.ntmps25
  go_wp2_with (first | ((with_reducible refine gate_callee (f := 49) rfl ?_); refine goesL_ (some 5) rfl rfl Tryd.func49 (by kernel_rfl) rfl #[.string a0] rfl (by (try simp only [List.map_toArray, List.map_cons, List.map_nil]); first | done | rfl | (simp only [List.length_drop, List.length_take]; rfl) | (rw [wrap_sum2 (by assumption)]; rfl)) ?_; (with_reducible refine (seal_Sum.calls a0 t108 _ A2.out).mono ?_); rintro e w5 ⟨rfl, hb⟩; refine ⟨_, rfl, ?_⟩; have n0_ := Ax.mk (bP bA hb); clear HB; have HB := n0_; clear n0_; (try clear hb); (try clear hb2); (try clear hk); (try clear hi)) | ((with_reducible refine gate_callee (f := 22) rfl ?_); refine goesL_ (some 7) rfl rfl Tryd.func22 (by kernel_rfl) rfl #[.int .u64 (IntKind.u64.wrap (t108)), .int .i64 4] rfl (by (try simp only [List.map_toArray, List.map_cons, List.map_nil]); first | done | rfl | (simp only [List.length_drop, List.length_take]; rfl) | (rw [wrap_sum2 (by assumption)]; rfl)) ?_; (with_reducible refine (le_Put.calls (IntKind.u64.wrap (t108)) 4 t109 _ A3.out).mono ?_); rintro e w6 ⟨rfl, hb⟩; refine ⟨_, rfl, ?_⟩; have n0_ := Ax.mk (bP bA hb); clear HB; have HB := n0_; clear n0_; (try clear hb); (try clear hb2); (try clear hk); (try clear hi)))
  go_ret
  exact ⟨by first | rfl | (simp [errW_none, errW_some] <;> rfl) | (simp [*, errW_none, errW_some] <;> rfl), bA⟩
 ·rw [if_neg c4] at H
  exact absurd H (by simp)
def r2_Put.l0 : Nat → Int → Int → List Int → Int → Option (ByteArray)
 | 0, _, _, _, _ => none
 | k + 1, x0, x1, x5, x6 => if x6 < x1 then (if x6 < 8 then (if x5.length < 140737488355328 then (r2_Put.l0 k (IntKind.u64.wrap (Int.tdiv x0 256)) x1 (x5 ++ [(Int.tmod x0 256) % 256]) (wrap64 (x6 + 1))) else (none)) else (some (strOfNums x5))) else (some (strOfNums x5))
def r2_Put.f (k : Nat) (a0 : Int) (a1 : Int) : Option (ByteArray) := r2_Put.l0 k a0 a1 ([] : List Int) 0
theorem r2_Put.mono_l : ∀ k, (∀ y0 y1 y2 y3, LeO (r2_Put.l0 k y0 y1 y2 y3) (r2_Put.l0 (k + 1) y0 y1 y2 y3))
 | 0 => fun _ _ _ _ r h => by simp [r2_Put.l0] at h
 | k + 1 => by
  have ih0 := r2_Put.mono_l k
  ·intro y0 y1 y2 y3
   unfold r2_Put.l0
   repeat' first
   | (with_reducible exact ih0 _ _ _ _)
   | (with_reducible exact LeO.refl _)
   | (with_reducible exact LeO.none _)
   | (with_reducible refine LeO.ite ?_ ?_)
   | (with_reducible refine LeO.bind ?_ (fun _ => ?_))
   | exact ih0 _ _ _ _
   | exact LeO.none _
   | refine LeO.ite ?_ ?_
   | refine LeO.bind ?_ (fun _ => ?_)
theorem r2_Put.mono : ∀ a0 a1 k, LeO (r2_Put.f k a0 a1) (r2_Put.f (k + 1) a0 a1) := by
 intro a0 a1 k
 have ih0 := r2_Put.mono_l k
 unfold r2_Put.f
 repeat' first
   | (with_reducible exact ih0 _ _ _ _)
   | (with_reducible exact LeO.refl _)
   | (with_reducible exact LeO.none _)
   | (with_reducible refine LeO.ite ?_ ?_)
   | (with_reducible refine LeO.bind ?_ (fun _ => ?_))
   | exact ih0 _ _ _ _
   | exact LeO.none _
   | refine LeO.ite ?_ ?_
   | refine LeO.bind ?_ (fun _ => ?_)
set_option maxHeartbeats 8000000 in
set_option maxRecDepth 100000 in
theorem r2_Put.calls (k : Nat) (a0 : Int) (a1 : Int) (r : ByteArray) (w : World) (h : r2_Put.f k a0 a1 = some r) :
  Calls Tryd.prog 27 #[.int .u64 a0, .int .i64 a1] w fun e w' => e = .returned (.string r) ∧ Below w.heap.size w w' := by
 have HB := Ax.mk (Below.refl w.heap.size w)
 have H : (r2_Put.l0 k a0 a1 ([] : List Int) 0) = some r := h
 clear h
 have H' := Ax.mk H
 clear H
 go_enter Tryd.func27, Tryd.ntmps27
 go_wp2
 go_loopg [0, 5, 6] k (fun kq v0 v5 v6 w' => ∃ (x0_1 : Int) (x5_1 : List Int) (x6_1 : Int), v0 = .int .u64 x0_1 ∧ v6 = .int .i64 x6_1 ∧ Ax (r2_Put.l0 kq x0_1 a1 x5_1 x6_1 = some r) ∧ Ax (kq ≤ k) ∧ Ax (Kd.R (Kd.int .u8) 5 w' w.heap.size (fun _ => True) v5 x5_1) ∧ Ax (Below w.heap.size w w'))
 case atStart => exact ⟨(a0), (([] : List Int)), (0), (by first | rfl | (simp; done) | (simp [*]; done)), (by first | rfl | (simp; done) | (simp [*]; done)), H', ⟨Nat.le_refl _⟩, ⟨by first | exact Kd.R_nil _ _ _ _ _ | exact Kd.N_nil _ _ _ _ _ | exact Kd.V_nil _ _ _ _ _ | exact Kd.Q_nil _ _ _ _ _ | exact Kd.S_nil _ _ _ _ _⟩, ⟨bA⟩⟩
 case round =>
  clear H'
  try clear c2
  try clear p2
  obtain ⟨x0_1, x5_1, x6_1, rfl, rfl, HA, HK1, HO_5, HB⟩ := hrel
  cases gk with
  | zero => exact absurd HA.out (by simp [r2_Put.l0])
  | succ k1 =>
   have H := HA.out
   clear HA
   simp only [r2_Put.l0] at H
   by_cases c3 : x6_1 < a1
   ·rw [if_pos c3] at H
    have c3b0 : decide (x6_1 < a1) = true := decide_eq_true c3
    clear c3
    by_cases c4 : x6_1 < 8
    ·rw [if_pos c4] at H
     have c4b0 : decide (x6_1 < 8) = true := decide_eq_true c4
     clear c4
     by_cases c5 : x5_1.length < 140737488355328
     ·rw [if_pos c5] at H
      have LMc5 := Ax.mk c5
      clear c5
      obtain ⟨y206, hy206⟩ : ∃ y_ : List Int, y_ = (x5_1 ++ [(Int.tmod x0_1 256) % 256]) := ⟨_, rfl⟩
      replace H : (r2_Put.l0 k1 (IntKind.u64.wrap (Int.tdiv x0_1 256)) a1 y206 (wrap64 (x6_1 + 1))) = some r := by first | (rw [hy206]; with_reducible exact H) | (have H2_ := (Option.bind_some _ _).symm.trans H; rw [hy206]; with_reducible exact H2_) | (have H2_ := (Option.bind_some _ _).symm.trans H; with_reducible exact H2_) | with_reducible exact H | (rw [hy206]; exact H) | exact H
      have Ny206 := Ax.mk hy206
      clear hy206
      have H' := Ax.mk H
      clear H
      go_wp2_with (first | ((with_reducible refine gate_builtin (b := .append) (xs := #[.tmp 16, .tmp 20]) rfl ?_); at_builtin; refine Kd.R_append (Kd.int .u8) (w0 := w) w.heap.size rfl (.tmp 16) (.tmp 20) 48 5 (.int .u8 0) 1 rfl Tryd.underlying48 info5 rfl (by decide) (by omega) u5 x5_1 ((Int.tmod x0_1 256) % 256) [.int .u8 ((Int.tmod x0_1 256) % 256)] (fun _ => True) (fun _ => False) rfl rfl ?aP (fun _ hk => hk.elim) ?aF ?aO ?aB ?aS ?aL ?_; (case aP => exact rfl); (case aB => exact bA); (case aF => exact (fun _ _ => trivial)); (case aO => exact (by exact Kd.R_to HO_5.out)); (case aS => exact (bS bA)); (case aL => have := LMc5.out; omega); intro v207 w6 ho hb hg hat; rw [← Ny206.out] at ho; have n0_ := Ax.mk (hb); have n1_ := Ax.mk (ho); clear HB; clear HO_5; have HB := n0_; have HO208 := n1_; clear n0_ n1_; clear ho hb hg hat))
      go_roundg k1
      case measure => have := HK1.out; omega
      case rel => exact ⟨(IntKind.u64.wrap (Int.tdiv x0_1 256)), (y206), (wrap64 (x6_1 + 1)), (by first | rfl | (simp; done) | (simp [*]; done)), (by first | rfl | (simp; done) | (simp [*]; done)), H', ⟨by have := HK1.out; omega⟩, ⟨by apply Kd.R_to; exact HO208.out⟩, ⟨bA⟩⟩
     ·rw [if_neg c5] at H
      exact absurd H (by simp)
    ·rw [if_neg c4] at H
     have c4b0 : decide (x6_1 < 8) = false := decide_eq_false c4
     clear c4
     obtain rfl := Option.some.inj H
     have hcv7 := own_string (P := Tryd.prog) Tryd.underlying48 Tryd.underlying5 Tryd.underlying9 (Kd.own_of_R HO_5.out)
     go_wp2
     go_ret
     exact ⟨by first | rfl | (simp [errW_none, errW_some] <;> rfl) | (simp [*, errW_none, errW_some] <;> rfl), bA⟩
   ·rw [if_neg c3] at H
    have c3b0 : decide (x6_1 < a1) = false := decide_eq_false c3
    clear c3
    obtain rfl := Option.some.inj H
    have hcv8 := own_string (P := Tryd.prog) Tryd.underlying48 Tryd.underlying5 Tryd.underlying9 (Kd.own_of_R HO_5.out)
    go_wp2
    go_ret
    exact ⟨by first | rfl | (simp [errW_none, errW_some] <;> rfl) | (simp [*, errW_none, errW_some] <;> rfl), bA⟩
mutual
def r3_Sum.l0 : Nat → ByteArray → Int → Int → Option (Int)
 | 0, _, _, _ => none
 | k + 1, x0, x3, x4 => if x4 < (x0.size : Int) then (if 0 ≤ x4 then (r3_Sum.l1 k x0 x3 x4 ((bt x0 x4) % 4294967296) 0) else (none)) else (some (Go.bits .xor .u32 x3 4294967295))
def r3_Sum.l1 : Nat → ByteArray → Int → Int → Int → Int → Option (Int)
 | 0, _, _, _, _, _ => none
 | k + 1, x0, x3, x4, x5, x6 => if x6 < 8 then (if (Go.bits .and .u32 (Go.bits .xor .u32 x3 x5) 1) = 1 then (r3_Sum.l1 k x0 (Go.bits .xor .u32 ((Int.tdiv x3 2) % 4294967296) 3988292384) x4 ((Int.tdiv x5 2) % 4294967296) (wrap64 (x6 + 1))) else (r3_Sum.l1 k x0 ((Int.tdiv x3 2) % 4294967296) x4 ((Int.tdiv x5 2) % 4294967296) (wrap64 (x6 + 1)))) else (r3_Sum.l0 k x0 x3 (wrap64 (x4 + 1)))
end
def r3_Sum.f (k : Nat) (a0 : ByteArray) : Option (Int) := r3_Sum.l0 k a0 4294967295 0
theorem r3_Sum.mono_l : ∀ k, (∀ y0 y1 y2, LeO (r3_Sum.l0 k y0 y1 y2) (r3_Sum.l0 (k + 1) y0 y1 y2)) ∧ (∀ y0 y1 y2 y3 y4, LeO (r3_Sum.l1 k y0 y1 y2 y3 y4) (r3_Sum.l1 (k + 1) y0 y1 y2 y3 y4))
 | 0 => ⟨fun _ _ _ r h => by simp [r3_Sum.l0] at h, fun _ _ _ _ _ r h => by simp [r3_Sum.l1] at h⟩
 | k + 1 => by
  obtain ⟨ih0, ih1⟩ := r3_Sum.mono_l k
  refine ⟨?_, ?_⟩
  ·intro y0 y1 y2
   unfold r3_Sum.l0
   repeat' first
   | (with_reducible exact ih0 _ _ _)
   | (with_reducible exact ih1 _ _ _ _ _)
   | (with_reducible exact LeO.refl _)
   | (with_reducible exact LeO.none _)
   | (with_reducible refine LeO.ite ?_ ?_)
   | (with_reducible refine LeO.bind ?_ (fun _ => ?_))
   | exact ih0 _ _ _
   | exact ih1 _ _ _ _ _
   | exact LeO.none _
   | refine LeO.ite ?_ ?_
   | refine LeO.bind ?_ (fun _ => ?_)
  ·intro y0 y1 y2 y3 y4
   unfold r3_Sum.l1
   repeat' first
   | (with_reducible exact ih0 _ _ _)
   | (with_reducible exact ih1 _ _ _ _ _)
   | (with_reducible exact LeO.refl _)
   | (with_reducible exact LeO.none _)
   | (with_reducible refine LeO.ite ?_ ?_)
   | (with_reducible refine LeO.bind ?_ (fun _ => ?_))
   | exact ih0 _ _ _
   | exact ih1 _ _ _ _ _
   | exact LeO.none _
   | refine LeO.ite ?_ ?_
   | refine LeO.bind ?_ (fun _ => ?_)
theorem r3_Sum.mono : ∀ a0 k, LeO (r3_Sum.f k a0) (r3_Sum.f (k + 1) a0) := by
 intro a0 k
 obtain ⟨ih0, ih1⟩ := r3_Sum.mono_l k
 unfold r3_Sum.f
 repeat' first
   | (with_reducible exact ih0 _ _ _)
   | (with_reducible exact ih1 _ _ _ _ _)
   | (with_reducible exact LeO.refl _)
   | (with_reducible exact LeO.none _)
   | (with_reducible refine LeO.ite ?_ ?_)
   | (with_reducible refine LeO.bind ?_ (fun _ => ?_))
   | exact ih0 _ _ _
   | exact ih1 _ _ _ _ _
   | exact LeO.none _
   | refine LeO.ite ?_ ?_
   | refine LeO.bind ?_ (fun _ => ?_)
set_option maxHeartbeats 8000000 in
set_option maxRecDepth 100000 in
theorem r3_Sum.calls (k : Nat) (a0 : ByteArray) (r : Int) (w : World) (h : r3_Sum.f k a0 = some r) :
  Calls Tryd.prog 36 #[.string a0] w fun e w' => e = .returned (.int .u32 r) ∧ Drawn0 w w' := by
 have H : (r3_Sum.l0 k a0 4294967295 0) = some r := h
 clear h
 have H' := Ax.mk H
 clear H
 go_enter Tryd.func36, Tryd.ntmps36
 go_wp2
 go_loopg [3, 4] k (fun kq v3 v4 w' => ∃ (x3_1 : Int) (x4_1 : Int), v3 = .int .u32 x3_1 ∧ v4 = .int .i64 x4_1 ∧ Ax (r3_Sum.l0 kq a0 x3_1 x4_1 = some r) ∧ Ax (kq ≤ k) ∧ Drawn0 w w')
 case atStart => exact ⟨(4294967295), (0), (by first | rfl | (simp; done) | (simp [*]; done)), (by first | rfl | (simp; done) | (simp [*]; done)), H', ⟨Nat.le_refl _⟩, by repeat (first | exact Drawn0.refl _ | apply Drawn0.step)⟩
 case round =>
  clear H'
  obtain ⟨x3_1, x4_1, rfl, rfl, HA, HK1, ⟨m1, rfl⟩⟩ := hrel
  cases gk with
  | zero => exact absurd HA.out (by simp [r3_Sum.l0])
  | succ k1 =>
   have H := HA.out
   clear HA
   simp only [r3_Sum.l0] at H
   by_cases c2 : x4_1 < (a0.size : Int)
   ·rw [if_pos c2] at H
    have c2b0 : decide (x4_1 < (a0.size : Int)) = true := decide_eq_true c2
    clear c2
    by_cases c3 : 0 ≤ x4_1
    ·rw [if_pos c3] at H
     have c3b0 : decide (0 ≤ x4_1) = true := decide_eq_true c3
     clear c3
     have H' := Ax.mk H
     clear H
     have p4 : 0 ≤ (x4_1 : Int) := of_decide_eq_true (by first | (with_reducible assumption) | assumption)
     have q4 : x4_1 < (a0.size : Int) := of_decide_eq_true (by first | (with_reducible assumption) | assumption)
     have hx4 := bt_at a0 x4_1
     replace p4 := eq_true p4
     replace q4 := eq_true q4
     go_wp2
     go_loopg [3, 5, 6] k1 (fun kq v3 v5 v6 w' => ∃ (x3_2 : Int) (x5_2 : Int) (x6_2 : Int), v3 = .int .u32 x3_2 ∧ v5 = .int .u32 x5_2 ∧ v6 = .int .i64 x6_2 ∧ Ax (r3_Sum.l1 kq a0 x3_2 x4_1 x5_2 x6_2 = some r) ∧ Ax (kq ≤ k1) ∧ Drawn0 w w')
     case atStart => exact ⟨(x3_1), ((bt a0 x4_1) % 4294967296), (0), (by first | rfl | (simp; done) | (simp [*]; done)), (by first | rfl | (simp; done) | (simp [*]; done)), (by first | rfl | (simp; done) | (simp [*]; done)), H', ⟨Nat.le_refl _⟩, by repeat (first | exact Drawn0.refl _ | apply Drawn0.step)⟩
     case round =>
      clear H'
      try clear c2
      try clear c2b0
      try clear p2
      try clear c3
      try clear c3b0
      try clear p4
      try clear q4
      try clear hx4
      try clear p4
      try clear q4
      obtain ⟨x3_2, x5_2, x6_2, rfl, rfl, rfl, HA, HK2, ⟨m2, rfl⟩⟩ := hrel
      cases gk with
      | zero => exact absurd HA.out (by simp [r3_Sum.l1])
      | succ k2 =>
       have H := HA.out
       clear HA
       simp only [r3_Sum.l1] at H
       by_cases c5 : x6_2 < 8
       ·rw [if_pos c5] at H
        have c5b0 : decide (x6_2 < 8) = true := decide_eq_true c5
        clear c5
        by_cases c6 : (Go.bits .and .u32 (Go.bits .xor .u32 x3_2 x5_2) 1) = 1
        ·rw [if_pos c6] at H
         have c6b0 : ((Go.bits .and .u32 (Go.bits .xor .u32 x3_2 x5_2) 1) == 1) = true := beq_iff_eq.mpr c6
         have c6b1 : ((Go.bits .and .u32 (Go.bits .xor .u32 x3_2 x5_2) 1) != 1) = false := bne_eq_false_iff_eq.mpr c6
         clear c6
         have H' := Ax.mk H
         clear H
         go_wp2
         go_roundg k2
         case measure => have := HK1.out; have := HK2.out; omega
         case rel => exact ⟨(Go.bits .xor .u32 ((Int.tdiv x3_2 2) % 4294967296) 3988292384), ((Int.tdiv x5_2 2) % 4294967296), (wrap64 (x6_2 + 1)), (by first | rfl | (simp; done) | (simp [*]; done)), (by first | rfl | (simp; done) | (simp [*]; done)), (by first | rfl | (simp; done) | (simp [*]; done)), H', ⟨by have := HK1.out; have := HK2.out; omega⟩, by repeat (first | exact Drawn0.refl _ | apply Drawn0.step)⟩
        ·rw [if_neg c6] at H
         have c6b0 : ((Go.bits .and .u32 (Go.bits .xor .u32 x3_2 x5_2) 1) == 1) = false := beq_eq_false_iff_ne.mpr c6
         have c6b1 : ((Go.bits .and .u32 (Go.bits .xor .u32 x3_2 x5_2) 1) != 1) = true := bne_iff_ne.mpr c6
         have H' := Ax.mk H
         clear H
         go_wp2
         go_roundg k2
         case measure => have := HK1.out; have := HK2.out; omega
         case rel => exact ⟨((Int.tdiv x3_2 2) % 4294967296), ((Int.tdiv x5_2 2) % 4294967296), (wrap64 (x6_2 + 1)), (by first | rfl | (simp; done) | (simp [*]; done)), (by first | rfl | (simp; done) | (simp [*]; done)), (by first | rfl | (simp; done) | (simp [*]; done)), H', ⟨by have := HK1.out; have := HK2.out; omega⟩, by repeat (first | exact Drawn0.refl _ | apply Drawn0.step)⟩
       ·rw [if_neg c5] at H
        have c5b0 : decide (x6_2 < 8) = false := decide_eq_false c5
        clear c5
        have H' := Ax.mk H
        clear H
        go_wp2
        go_roundg k2
        case measure => have := HK1.out; have := HK2.out; omega
        case rel => exact ⟨(x3_2), (wrap64 (x4_1 + 1)), (by first | rfl | (simp; done) | (simp [*]; done)), (by first | rfl | (simp; done) | (simp [*]; done)), H', ⟨by have := HK1.out; have := HK2.out; omega⟩, by repeat (first | exact Drawn0.refl _ | apply Drawn0.step)⟩
    ·rw [if_neg c3] at H
     exact absurd H (by simp)
   ·rw [if_neg c2] at H
    have c2b0 : decide (x4_1 < (a0.size : Int)) = false := decide_eq_false c2
    clear c2
    obtain rfl := Option.some.inj H
    go_wp2
    go_ret
    exact ⟨by first | rfl | (simp; done) | (simp [*]; done), by repeat (first | exact Drawn0.refl _ | apply Drawn0.step)⟩
def r3_Put.f (k : Nat) (a0 : ByteArray) : Option (ByteArray) := (r3_Sum.f k a0).bind fun t209 => ((r2_Put.f k (IntKind.u64.wrap (t209)) 4).bind fun t210 => (if a0.size + t210.size ≤ 9223372036854775807 then (some (a0 ++ t210)) else (none)))
theorem r3_Put.mono : ∀ a0 k, LeO (r3_Put.f k a0) (r3_Put.f (k + 1) a0) := by
 intro a0 k
 unfold r3_Put.f
 repeat' first
   | (with_reducible exact r2_Put.mono _ _ _)
   | (with_reducible exact r3_Sum.mono _ _)
   | (with_reducible exact LeO.refl _)
   | (with_reducible exact LeO.none _)
   | (with_reducible refine LeO.ite ?_ ?_)
   | (with_reducible refine LeO.bind ?_ (fun _ => ?_))
   | exact r2_Put.mono _ _ _
   | exact r3_Sum.mono _ _
   | exact LeO.none _
   | refine LeO.ite ?_ ?_
   | refine LeO.bind ?_ (fun _ => ?_)
set_option maxHeartbeats 8000000 in
set_option maxRecDepth 100000 in
theorem r3_Put.calls (k : Nat) (a0 : ByteArray) (r : ByteArray) (w : World) (h : r3_Put.f k a0 = some r) :
  Calls Tryd.prog 15 #[.string a0] w fun e w' => e = .returned (.string r) ∧ Below w.heap.size w w' := by
 have HB := Ax.mk (Below.refl w.heap.size w)
 have H : ((r3_Sum.f k a0).bind fun t209 => ((r2_Put.f k (IntKind.u64.wrap (t209)) 4).bind fun t210 => (if a0.size + t210.size ≤ 9223372036854775807 then (some (a0 ++ t210)) else (none)))) = some r := h
 clear h
 replace H := Option.bind_eq_some_iff.mp H
 obtain ⟨t209, A20, H⟩ := H
 replace H : ((r2_Put.f k (IntKind.u64.wrap (t209)) 4).bind fun t210 => (if a0.size + t210.size ≤ 9223372036854775807 then (some (a0 ++ t210)) else (none))) = some r := H
 have A2 := Ax.mk A20
 clear A20
 replace H := Option.bind_eq_some_iff.mp H
 obtain ⟨t210, A30, H⟩ := H
 replace H : (if a0.size + t210.size ≤ 9223372036854775807 then (some (a0 ++ t210)) else (none)) = some r := H
 have A3 := Ax.mk A30
 clear A30
 by_cases c4 : a0.size + t210.size ≤ 9223372036854775807
 ·rw [if_pos c4] at H
  have c4b0 := eq_true c4
  have c4b1 : decide (a0.size + t210.size ≤ 9223372036854775807) = true := decide_eq_true c4
  try have c4b2 : (9223372036854775807 < a0.size + t210.size) = False := eq_false (Nat.not_lt.2 c4)
  obtain rfl := Option.some.inj H
  go_enter Tryd.func15, Tryd.ntmps15
  go_wp2_with (first | ((with_reducible refine gate_callee (f := 36) rfl ?_); refine goesL_ (some 5) rfl rfl Tryd.func36 (by kernel_rfl) rfl #[.string a0] rfl (by (try simp only [List.map_toArray, List.map_cons, List.map_nil]); first | done | rfl | (simp only [List.length_drop, List.length_take]; rfl) | (rw [wrap_sum2 (by assumption)]; rfl)) ?_; (with_reducible refine (r3_Sum.calls k a0 t209 _ A2.out).mono ?_); rintro e w' ⟨rfl, ⟨nd, rfl⟩⟩; refine ⟨_, rfl, ?_⟩) | ((with_reducible refine gate_callee (f := 27) rfl ?_); refine goesL_ (some 7) rfl rfl Tryd.func27 (by kernel_rfl) rfl #[.int .u64 (IntKind.u64.wrap (t209)), .int .i64 4] rfl (by (try simp only [List.map_toArray, List.map_cons, List.map_nil]); first | done | rfl | (simp only [List.length_drop, List.length_take]; rfl) | (rw [wrap_sum2 (by assumption)]; rfl)) ?_; (with_reducible refine (r2_Put.calls k (IntKind.u64.wrap (t209)) 4 t210 _ A3.out).mono ?_); rintro e w5 ⟨rfl, hb⟩; refine ⟨_, rfl, ?_⟩; have n0_ := Ax.mk (bP bA hb); clear HB; have HB := n0_; clear n0_; (try clear hb); (try clear hb2); (try clear hk); (try clear hi)))
  go_ret
  exact ⟨by first | rfl | (simp [errW_none, errW_some] <;> rfl) | (simp [*, errW_none, errW_some] <;> rfl), bA⟩
 ·rw [if_neg c4] at H
  exact absurd H (by simp)
def span_inside.f (a0_0 : Int) (a0_1 : Int) (a1 : Int) : Option (Bool) := if a0_1 > 0 then (if a0_0 ≥ 0 then (if a0_0 < a1 then (some (decide (a0_1 ≤ (wrap64 (a1 - a0_0))))) else (some false)) else (some false)) else (some false)
set_option maxHeartbeats 8000000 in
set_option maxRecDepth 100000 in
theorem span_inside.calls (a0_0 : Int) (a0_1 : Int) (a1 : Int) (r : Bool) (w : World) (h : span_inside.f a0_0 a0_1 a1 = some r) :
  Calls Tryd.prog 50 #[.agg #[.int .i64 a0_0, .int .i64 a0_1], .int .i64 a1] w fun e w' => e = .returned (.bool r) ∧ Below w.heap.size w w' := by
 have hu53 := Tryd.underlying53
 have HB := Ax.mk (Below.refl w.heap.size w)
 have H : (if a0_1 > 0 then (if a0_0 ≥ 0 then (if a0_0 < a1 then (some (decide (a0_1 ≤ (wrap64 (a1 - a0_0))))) else (some false)) else (some false)) else (some false)) = some r := h
 clear h
 by_cases c3 : a0_1 > 0
 ·rw [if_pos c3] at H
  have c3b0 : decide (0 < a0_1) = true := decide_eq_true c3
  clear c3
  by_cases c4 : a0_0 ≥ 0
  ·rw [if_pos c4] at H
   have c4b0 : decide (0 ≤ a0_0) = true := decide_eq_true c4
   clear c4
   by_cases c5 : a0_0 < a1
   ·rw [if_pos c5] at H
    have c5b0 : decide (a0_0 < a1) = true := decide_eq_true c5
    clear c5
    obtain rfl := Option.some.inj H
    go_enter Tryd.func50, Tryd.ntmps50
    go_wp2_with (first | ((with_reducible refine gate_dst (N := 2) rfl ?_); refine box_event ?hg (N := 2) ?hd (cs := #[.int .i64 a0_0, .int .i64 a0_1]) (t := 53) ?hr ?_; (case hd => rfl); (case hg => rfl); (case hr => first | (go_simp; done) | (go_simp; rfl)); intro gb101 hg w6 hbox hb; have n0_ := Ax.mk (bP bA hb); have n1_ := Ax.mk (hbox); have n2_ := Ax.mk ((ge_new hg : w.heap.size ≤ gb101)); have n3_ := n2_; clear HB; have HB := n0_; have BK101 := n1_; have GW101 := n2_; have GE101 := n3_; clear n0_ n1_ n2_ n3_; clear hb hbox hg; have hcz7_0 : w6.cell? ⟨gb101, 0, none⟩ = some (.int .i64 a0_0) := (bC BK101.out 0).trans rfl; have hcz7_1 : w6.cell? ⟨gb101, 1, none⟩ = some (.int .i64 a0_1) := (bC BK101.out 1).trans rfl; have hfz7_0 := bF BK101.out 0; have hfz7_1 := bF BK101.out 1))
    go_ret
    exact ⟨by first | rfl | (simp [errW_none, errW_some] <;> rfl) | (simp [*, errW_none, errW_some] <;> rfl), bA⟩
   ·rw [if_neg c5] at H
    have c5b0 : decide (a0_0 < a1) = false := decide_eq_false c5
    clear c5
    obtain rfl := Option.some.inj H
    go_enter Tryd.func50, Tryd.ntmps50
    go_wp2_with (first | ((with_reducible refine gate_dst (N := 2) rfl ?_); refine box_event ?hg (N := 2) ?hd (cs := #[.int .i64 a0_0, .int .i64 a0_1]) (t := 53) ?hr ?_; (case hd => rfl); (case hg => rfl); (case hr => first | (go_simp; done) | (go_simp; rfl)); intro gb101 hg w8 hbox hb; have n0_ := Ax.mk (bP bA hb); have n1_ := Ax.mk (hbox); have n2_ := Ax.mk ((ge_new hg : w.heap.size ≤ gb101)); have n3_ := n2_; clear HB; have HB := n0_; have BK101 := n1_; have GW101 := n2_; have GE101 := n3_; clear n0_ n1_ n2_ n3_; clear hb hbox hg; have hcz9_0 : w8.cell? ⟨gb101, 0, none⟩ = some (.int .i64 a0_0) := (bC BK101.out 0).trans rfl; have hcz9_1 : w8.cell? ⟨gb101, 1, none⟩ = some (.int .i64 a0_1) := (bC BK101.out 1).trans rfl; have hfz9_0 := bF BK101.out 0; have hfz9_1 := bF BK101.out 1))
    go_ret
    exact ⟨by first | rfl | (simp [errW_none, errW_some] <;> rfl) | (simp [*, errW_none, errW_some] <;> rfl), bA⟩
  ·rw [if_neg c4] at H
   have c4b0 : decide (0 ≤ a0_0) = false := decide_eq_false c4
   clear c4
   obtain rfl := Option.some.inj H
   go_enter Tryd.func50, Tryd.ntmps50
   go_wp2_with (first | ((with_reducible refine gate_dst (N := 2) rfl ?_); refine box_event ?hg (N := 2) ?hd (cs := #[.int .i64 a0_0, .int .i64 a0_1]) (t := 53) ?hr ?_; (case hd => rfl); (case hg => rfl); (case hr => first | (go_simp; done) | (go_simp; rfl)); intro gb101 hg w10 hbox hb; have n0_ := Ax.mk (bP bA hb); have n1_ := Ax.mk (hbox); have n2_ := Ax.mk ((ge_new hg : w.heap.size ≤ gb101)); have n3_ := n2_; clear HB; have HB := n0_; have BK101 := n1_; have GW101 := n2_; have GE101 := n3_; clear n0_ n1_ n2_ n3_; clear hb hbox hg; have hcz11_0 : w10.cell? ⟨gb101, 0, none⟩ = some (.int .i64 a0_0) := (bC BK101.out 0).trans rfl; have hcz11_1 : w10.cell? ⟨gb101, 1, none⟩ = some (.int .i64 a0_1) := (bC BK101.out 1).trans rfl; have hfz11_0 := bF BK101.out 0; have hfz11_1 := bF BK101.out 1))
   go_ret
   exact ⟨by first | rfl | (simp [errW_none, errW_some] <;> rfl) | (simp [*, errW_none, errW_some] <;> rfl), bA⟩
 ·rw [if_neg c3] at H
  have c3b0 : decide (0 < a0_1) = false := decide_eq_false c3
  clear c3
  obtain rfl := Option.some.inj H
  go_enter Tryd.func50, Tryd.ntmps50
  go_wp2_with (first | ((with_reducible refine gate_dst (N := 2) rfl ?_); refine box_event ?hg (N := 2) ?hd (cs := #[.int .i64 a0_0, .int .i64 a0_1]) (t := 53) ?hr ?_; (case hd => rfl); (case hg => rfl); (case hr => first | (go_simp; done) | (go_simp; rfl)); intro gb101 hg w12 hbox hb; have n0_ := Ax.mk (bP bA hb); have n1_ := Ax.mk (hbox); have n2_ := Ax.mk ((ge_new hg : w.heap.size ≤ gb101)); have n3_ := n2_; clear HB; have HB := n0_; have BK101 := n1_; have GW101 := n2_; have GE101 := n3_; clear n0_ n1_ n2_ n3_; clear hb hbox hg; have hcz13_0 : w12.cell? ⟨gb101, 0, none⟩ = some (.int .i64 a0_0) := (bC BK101.out 0).trans rfl; have hcz13_1 : w12.cell? ⟨gb101, 1, none⟩ = some (.int .i64 a0_1) := (bC BK101.out 1).trans rfl; have hfz13_0 := bF BK101.out 0; have hfz13_1 := bF BK101.out 1))
  go_ret
  exact ⟨by first | rfl | (simp [errW_none, errW_some] <;> rfl) | (simp [*, errW_none, errW_some] <;> rfl), bA⟩
def span_sized.f (a0 : Int) : Option (Bool) := if a0 ≥ 1 then (some (decide (a0 ≤ 8192))) else (some false)
set_option maxHeartbeats 8000000 in
set_option maxRecDepth 100000 in
theorem span_sized.calls (a0 : Int) (r : Bool) (w : World) (h : span_sized.f a0 = some r) :
  Calls Tryd.prog 51 #[.int .i64 a0] w fun e w' => e = .returned (.bool r) ∧ Drawn0 w w' := by
 have H : (if a0 ≥ 1 then (some (decide (a0 ≤ 8192))) else (some false)) = some r := h
 clear h
 by_cases c2 : a0 ≥ 1
 ·rw [if_pos c2] at H
  have c2b0 : decide (1 ≤ a0) = true := decide_eq_true c2
  clear c2
  obtain rfl := Option.some.inj H
  go_enter Tryd.func51, Tryd.ntmps51
  go_wp2
  go_ret
  exact ⟨by first | rfl | (simp; done) | (simp [*]; done), by repeat (first | exact Drawn0.refl _ | apply Drawn0.step)⟩
 ·rw [if_neg c2] at H
  have c2b0 : decide (1 ≤ a0) = false := decide_eq_false c2
  clear c2
  obtain rfl := Option.some.inj H
  go_enter Tryd.func51, Tryd.ntmps51
  go_wp2
  go_ret
  exact ⟨by first | rfl | (simp; done) | (simp [*]; done), by repeat (first | exact Drawn0.refl _ | apply Drawn0.step)⟩
def span_Right.l0 : Nat → Int → Int → List (S53) → Int → Int → Option (Bool)
 | 0, _, _, _, _, _ => none
 | k + 1, x1, x5, x8, x9, x10 => if x10 < x9 then (if 0 ≤ x10 then (if x10 < (x8.length : Int) then ((span_inside.f ((rd_T53 x8 x10).f0) ((rd_T53 x8 x10).f1) x1).bind fun t104 => (if t104 = true then (if ((rd_T53 x8 x10).f0) ≤ x5 then (some false) else (span_Right.l0 k x1 (wrap64 (((rd_T53 x8 x10).f0) + ((rd_T53 x8 x10).f1))) x8 x9 (wrap64 (x10 + 1)))) else (some false))) else (none)) else (none)) else ((span_sized.f x1).bind fun t105 => (some t105))
def span_Right.f (k : Nat) (l0 : List (S53)) (a1 : Int) : Option (Bool) := span_Right.l0 k a1 (-1) l0 (l0.length : Int) 0
theorem span_Right.mono_l : ∀ k, (∀ y0 y1 y2 y3 y4, LeO (span_Right.l0 k y0 y1 y2 y3 y4) (span_Right.l0 (k + 1) y0 y1 y2 y3 y4))
 | 0 => fun _ _ _ _ _ r h => by simp [span_Right.l0] at h
 | k + 1 => by
  have ih0 := span_Right.mono_l k
  ·intro y0 y1 y2 y3 y4
   unfold span_Right.l0
   repeat' first
   | (with_reducible exact ih0 _ _ _ _ _)
   | (with_reducible exact LeO.refl _)
   | (with_reducible exact LeO.none _)
   | (with_reducible refine LeO.ite ?_ ?_)
   | (with_reducible refine LeO.bind ?_ (fun _ => ?_))
   | exact ih0 _ _ _ _ _
   | exact LeO.none _
   | refine LeO.ite ?_ ?_
   | refine LeO.bind ?_ (fun _ => ?_)
theorem span_Right.mono : ∀ a0 a1 k, LeO (span_Right.f k a0 a1) (span_Right.f (k + 1) a0 a1) := by
 intro a0 a1 k
 have ih0 := span_Right.mono_l k
 unfold span_Right.f
 repeat' first
   | (with_reducible exact ih0 _ _ _ _ _)
   | (with_reducible exact LeO.refl _)
   | (with_reducible exact LeO.none _)
   | (with_reducible refine LeO.ite ?_ ?_)
   | (with_reducible refine LeO.bind ?_ (fun _ => ?_))
   | exact ih0 _ _ _ _ _
   | exact LeO.none _
   | refine LeO.ite ?_ ?_
   | refine LeO.bind ?_ (fun _ => ?_)
set_option maxHeartbeats 8000000 in
set_option maxRecDepth 100000 in
theorem span_Right.calls (k : Nat) (A0 : Option Addr) (c0 : Nat) (l0 : List (S53)) (a1 : Int) (r : Bool) (w : World) (hr0 : Kd.C k53 w A0 l0.length l0) (hc0 : l0.length ≤ c0) (h : span_Right.f k l0 a1 = some r) :
  Calls Tryd.prog 29 #[.slice A0 l0.length c0, .int .i64 a1] w fun e w' => e = .returned (.bool r) ∧ Below w.heap.size w w' := by
 have hu53 := Tryd.underlying53
 have HR0 := Ax.mk hr0
 have HC0 := Ax.mk hc0
 clear hr0 hc0
 have HB := Ax.mk (Below.refl w.heap.size w)
 have H : (span_Right.l0 k a1 (-1) l0 (l0.length : Int) 0) = some r := h
 clear h
 have H' := Ax.mk H
 clear H
 go_enter Tryd.func29, Tryd.ntmps29
 go_wp2
 go_loopg [5, 10] k (fun kq v5 v10 w' => ∃ (x5_1 : Int) (x10_1 : Int), v5 = .int .i64 x5_1 ∧ v10 = .int .i64 x10_1 ∧ Ax (span_Right.l0 kq a1 x5_1 l0 (l0.length : Int) x10_1 = some r) ∧ Ax (kq ≤ k) ∧ Ax (Below w.heap.size w w'))
 case atStart => exact ⟨((-1)), (0), (by first | rfl | (simp; done) | (simp [*]; done)), (by first | rfl | (simp; done) | (simp [*]; done)), H', ⟨Nat.le_refl _⟩, ⟨bA⟩⟩
 case round =>
  clear H'
  try clear c2
  try clear p2
  obtain ⟨x5_1, x10_1, rfl, rfl, HA, HK1, HB⟩ := hrel
  cases gk with
  | zero => exact absurd HA.out (by simp [span_Right.l0])
  | succ k1 =>
   have H := HA.out
   clear HA
   simp only [span_Right.l0] at H
   by_cases c3 : x10_1 < (l0.length : Int)
   ·rw [if_pos c3] at H
    have c3b0 : decide (x10_1 < (l0.length : Int)) = true := decide_eq_true c3
    clear c3
    by_cases c4 : 0 ≤ x10_1
    ·rw [if_pos c4] at H
     have c4b0 : decide (0 ≤ x10_1) = true := decide_eq_true c4
     clear c4
     by_cases c5 : x10_1 < (l0.length : Int)
     ·rw [if_pos c5] at H
      have c5b0 : decide (x10_1 < (l0.length : Int)) = true := decide_eq_true c5
      clear c5
      replace H := Option.bind_eq_some_iff.mp H
      obtain ⟨t104, A60, H⟩ := H
      replace H : (if t104 = true then (if ((rd_T53 l0 x10_1).f0) ≤ x5_1 then (some false) else (span_Right.l0 k1 a1 (wrap64 (((rd_T53 l0 x10_1).f0) + ((rd_T53 l0 x10_1).f1))) l0 (l0.length : Int) (wrap64 (x10_1 + 1)))) else (some false)) = some r := H
      have A6 := Ax.mk A60
      clear A60
      by_cases c7 : t104 = true
      ·subst c7
       have H1 : (if ((rd_T53 l0 x10_1).f0) ≤ x5_1 then (some false) else (span_Right.l0 k1 a1 (wrap64 (((rd_T53 l0 x10_1).f0) + ((rd_T53 l0 x10_1).f1))) l0 (l0.length : Int) (wrap64 (x10_1 + 1)))) = some r := by rw [if_pos rfl] at H; exact H
       clear H
       have H := H1
       clear H1
       by_cases c8 : ((rd_T53 l0 x10_1).f0) ≤ x5_1
       ·rw [if_pos c8] at H
        have c8b0 : decide (((rd_T53 l0 x10_1).f0) ≤ x5_1) = true := decide_eq_true c8
        clear c8
        obtain rfl := Option.some.inj H
        have p102 : 0 ≤ (x10_1 : Int) := of_decide_eq_true (by first | (with_reducible assumption) | assumption)
        have q102 : x10_1 < (l0.length : Int) := of_decide_eq_true (by first | (with_reducible assumption) | assumption)
        obtain ⟨ad102, e102, hx102_0, hx102_1⟩ := at_T53 HR0.out x10_1 p102 q102
        cases e102
        replace hx102_0 := (HB.out.cell (World.block_lt_of_cell? w _ hx102_0)).trans hx102_0
        replace hx102_1 := (HB.out.cell (World.block_lt_of_cell? w _ hx102_1)).trans hx102_1
        replace p102 := eq_true p102
        replace q102 := eq_true q102
        go_wp2_with (first | ((with_reducible refine gate_dst (N := 7) rfl ?_); refine box_event ?hg (N := 7) ?hd (cs := #[.int .i64 0, .int .i64 0]) (t := 53) ?hr ?_; (case hd => rfl); (case hg => rfl); (case hr => first | (go_simp; done) | (go_simp; rfl)); intro gb103 hg w9 hbox hb; have n0_ := Ax.mk (bP bA hb); have n1_ := Ax.mk (hbox); have n2_ := Ax.mk ((ge_new hg : w.heap.size ≤ gb103)); have n3_ := n2_; clear HB; have HB := n0_; have BK103 := n1_; have GW103 := n2_; have GE103 := n3_; clear n0_ n1_ n2_ n3_; clear hb hbox hg; have hcz10_0 : w9.cell? ⟨gb103, 0, none⟩ = some (.int .i64 0) := (bC BK103.out 0).trans rfl; have hcz10_1 : w9.cell? ⟨gb103, 1, none⟩ = some (.int .i64 0) := (bC BK103.out 1).trans rfl; have hfz10_0 := bF BK103.out 0; have hfz10_1 := bF BK103.out 1) | ((with_reducible refine gate_callee (f := 50) rfl ?_); refine goesL_ (some 16) rfl rfl Tryd.func50 (by kernel_rfl) rfl #[.agg #[.int .i64 ((rd_T53 l0 x10_1).f0), .int .i64 ((rd_T53 l0 x10_1).f1)], .int .i64 a1] rfl (by (try simp only [List.map_toArray, List.map_cons, List.map_nil]); first | done | rfl | (simp only [List.length_drop, List.length_take]; rfl) | (rw [wrap_sum2 (by assumption)]; rfl)) ?_; (with_reducible refine (span_inside.calls ((rd_T53 l0 x10_1).f0) ((rd_T53 l0 x10_1).f1) a1 true _ A6.out).mono ?_); rintro e w11 ⟨rfl, hb⟩; refine ⟨_, rfl, ?_⟩; have n0_ := Ax.mk (bB (g := gb103) (o := .cells #[.int .i64 ((rd_T53 l0 x10_1).f0), .int .i64 ((rd_T53 l0 x10_1).f1)] 53 (0, 0)) (by refine bT ?_; refine bU (cs := #[.int .i64 ((rd_T53 l0 x10_1).f0), .int .i64 0]) ?_ 1 _ rfl; refine bT ?_; refine bU (cs := #[.int .i64 0, .int .i64 0]) ?_ 0 _ rfl; exact bT BK103.out) hb); have n1_ := Ax.mk (bP bA hb); clear BK103; clear HB; have BK103 := n0_; have HB := n1_; clear n0_ n1_; (try clear hb); (try clear hb2); (try clear hk); (try clear hi); have hcz12_0 : w11.cell? ⟨gb103, 0, none⟩ = some (.int .i64 ((rd_T53 l0 x10_1).f0)) := (bC BK103.out 0).trans rfl; have hcz12_1 : w11.cell? ⟨gb103, 1, none⟩ = some (.int .i64 ((rd_T53 l0 x10_1).f1)) := (bC BK103.out 1).trans rfl; have hfz12_0 := bF BK103.out 0; have hfz12_1 := bF BK103.out 1))
        go_ret
        exact ⟨by first | rfl | (simp [errW_none, errW_some] <;> rfl) | (simp [*, errW_none, errW_some] <;> rfl), bA⟩
       ·rw [if_neg c8] at H
        have c8b0 : decide (((rd_T53 l0 x10_1).f0) ≤ x5_1) = false := decide_eq_false c8
        clear c8
        have H' := Ax.mk H
        clear H
        have p102 : 0 ≤ (x10_1 : Int) := of_decide_eq_true (by first | (with_reducible assumption) | assumption)
        have q102 : x10_1 < (l0.length : Int) := of_decide_eq_true (by first | (with_reducible assumption) | assumption)
        obtain ⟨ad102, e102, hx102_0, hx102_1⟩ := at_T53 HR0.out x10_1 p102 q102
        cases e102
        replace hx102_0 := (HB.out.cell (World.block_lt_of_cell? w _ hx102_0)).trans hx102_0
        replace hx102_1 := (HB.out.cell (World.block_lt_of_cell? w _ hx102_1)).trans hx102_1
        replace p102 := eq_true p102
        replace q102 := eq_true q102
        go_wp2_with (first | ((with_reducible refine gate_dst (N := 7) rfl ?_); refine box_event ?hg (N := 7) ?hd (cs := #[.int .i64 0, .int .i64 0]) (t := 53) ?hr ?_; (case hd => rfl); (case hg => rfl); (case hr => first | (go_simp; done) | (go_simp; rfl)); intro gb103 hg w13 hbox hb; have n0_ := Ax.mk (bP bA hb); have n1_ := Ax.mk (hbox); have n2_ := Ax.mk ((ge_new hg : w.heap.size ≤ gb103)); have n3_ := n2_; clear HB; have HB := n0_; have BK103 := n1_; have GW103 := n2_; have GE103 := n3_; clear n0_ n1_ n2_ n3_; clear hb hbox hg; have hcz14_0 : w13.cell? ⟨gb103, 0, none⟩ = some (.int .i64 0) := (bC BK103.out 0).trans rfl; have hcz14_1 : w13.cell? ⟨gb103, 1, none⟩ = some (.int .i64 0) := (bC BK103.out 1).trans rfl; have hfz14_0 := bF BK103.out 0; have hfz14_1 := bF BK103.out 1) | ((with_reducible refine gate_callee (f := 50) rfl ?_); refine goesL_ (some 16) rfl rfl Tryd.func50 (by kernel_rfl) rfl #[.agg #[.int .i64 ((rd_T53 l0 x10_1).f0), .int .i64 ((rd_T53 l0 x10_1).f1)], .int .i64 a1] rfl (by (try simp only [List.map_toArray, List.map_cons, List.map_nil]); first | done | rfl | (simp only [List.length_drop, List.length_take]; rfl) | (rw [wrap_sum2 (by assumption)]; rfl)) ?_; (with_reducible refine (span_inside.calls ((rd_T53 l0 x10_1).f0) ((rd_T53 l0 x10_1).f1) a1 true _ A6.out).mono ?_); rintro e w15 ⟨rfl, hb⟩; refine ⟨_, rfl, ?_⟩; have n0_ := Ax.mk (bB (g := gb103) (o := .cells #[.int .i64 ((rd_T53 l0 x10_1).f0), .int .i64 ((rd_T53 l0 x10_1).f1)] 53 (0, 0)) (by refine bT ?_; refine bU (cs := #[.int .i64 ((rd_T53 l0 x10_1).f0), .int .i64 0]) ?_ 1 _ rfl; refine bT ?_; refine bU (cs := #[.int .i64 0, .int .i64 0]) ?_ 0 _ rfl; exact bT BK103.out) hb); have n1_ := Ax.mk (bP bA hb); clear BK103; clear HB; have BK103 := n0_; have HB := n1_; clear n0_ n1_; (try clear hb); (try clear hb2); (try clear hk); (try clear hi); have hcz16_0 : w15.cell? ⟨gb103, 0, none⟩ = some (.int .i64 ((rd_T53 l0 x10_1).f0)) := (bC BK103.out 0).trans rfl; have hcz16_1 : w15.cell? ⟨gb103, 1, none⟩ = some (.int .i64 ((rd_T53 l0 x10_1).f1)) := (bC BK103.out 1).trans rfl; have hfz16_0 := bF BK103.out 0; have hfz16_1 := bF BK103.out 1))
        go_roundg k1
        case measure => have := HK1.out; omega
        case rel => exact ⟨(wrap64 (((rd_T53 l0 x10_1).f0) + ((rd_T53 l0 x10_1).f1))), (wrap64 (x10_1 + 1)), (by first | rfl | (simp; done) | (simp [*]; done)), (by first | rfl | (simp; done) | (simp [*]; done)), H', ⟨by have := HK1.out; omega⟩, ⟨bA⟩⟩
      ·replace c7 := Bool.eq_false_iff.mpr c7
       subst c7
       have H1 : (some false) = some r := by rw [if_neg (show ¬ (false = true) by decide)] at H; exact H
       clear H
       have H := H1
       clear H1
       obtain rfl := Option.some.inj H
       have p102 : 0 ≤ (x10_1 : Int) := of_decide_eq_true (by first | (with_reducible assumption) | assumption)
       have q102 : x10_1 < (l0.length : Int) := of_decide_eq_true (by first | (with_reducible assumption) | assumption)
       obtain ⟨ad102, e102, hx102_0, hx102_1⟩ := at_T53 HR0.out x10_1 p102 q102
       cases e102
       replace hx102_0 := (HB.out.cell (World.block_lt_of_cell? w _ hx102_0)).trans hx102_0
       replace hx102_1 := (HB.out.cell (World.block_lt_of_cell? w _ hx102_1)).trans hx102_1
       replace p102 := eq_true p102
       replace q102 := eq_true q102
       go_wp2_with (first | ((with_reducible refine gate_dst (N := 7) rfl ?_); refine box_event ?hg (N := 7) ?hd (cs := #[.int .i64 0, .int .i64 0]) (t := 53) ?hr ?_; (case hd => rfl); (case hg => rfl); (case hr => first | (go_simp; done) | (go_simp; rfl)); intro gb103 hg w17 hbox hb; have n0_ := Ax.mk (bP bA hb); have n1_ := Ax.mk (hbox); have n2_ := Ax.mk ((ge_new hg : w.heap.size ≤ gb103)); have n3_ := n2_; clear HB; have HB := n0_; have BK103 := n1_; have GW103 := n2_; have GE103 := n3_; clear n0_ n1_ n2_ n3_; clear hb hbox hg; have hcz18_0 : w17.cell? ⟨gb103, 0, none⟩ = some (.int .i64 0) := (bC BK103.out 0).trans rfl; have hcz18_1 : w17.cell? ⟨gb103, 1, none⟩ = some (.int .i64 0) := (bC BK103.out 1).trans rfl; have hfz18_0 := bF BK103.out 0; have hfz18_1 := bF BK103.out 1) | ((with_reducible refine gate_callee (f := 50) rfl ?_); refine goesL_ (some 16) rfl rfl Tryd.func50 (by kernel_rfl) rfl #[.agg #[.int .i64 ((rd_T53 l0 x10_1).f0), .int .i64 ((rd_T53 l0 x10_1).f1)], .int .i64 a1] rfl (by (try simp only [List.map_toArray, List.map_cons, List.map_nil]); first | done | rfl | (simp only [List.length_drop, List.length_take]; rfl) | (rw [wrap_sum2 (by assumption)]; rfl)) ?_; (with_reducible refine (span_inside.calls ((rd_T53 l0 x10_1).f0) ((rd_T53 l0 x10_1).f1) a1 false _ A6.out).mono ?_); rintro e w19 ⟨rfl, hb⟩; refine ⟨_, rfl, ?_⟩; have n0_ := Ax.mk (bB (g := gb103) (o := .cells #[.int .i64 ((rd_T53 l0 x10_1).f0), .int .i64 ((rd_T53 l0 x10_1).f1)] 53 (0, 0)) (by refine bT ?_; refine bU (cs := #[.int .i64 ((rd_T53 l0 x10_1).f0), .int .i64 0]) ?_ 1 _ rfl; refine bT ?_; refine bU (cs := #[.int .i64 0, .int .i64 0]) ?_ 0 _ rfl; exact bT BK103.out) hb); have n1_ := Ax.mk (bP bA hb); clear BK103; clear HB; have BK103 := n0_; have HB := n1_; clear n0_ n1_; (try clear hb); (try clear hb2); (try clear hk); (try clear hi)))
       go_ret
       exact ⟨by first | rfl | (simp [errW_none, errW_some] <;> rfl) | (simp [*, errW_none, errW_some] <;> rfl), bA⟩
     ·rw [if_neg c5] at H
      exact absurd H (by simp)
    ·rw [if_neg c4] at H
     exact absurd H (by simp)
   ·rw [if_neg c3] at H
    have c3b0 : decide (x10_1 < (l0.length : Int)) = false := decide_eq_false c3
    clear c3
    replace H := Option.bind_eq_some_iff.mp H
    obtain ⟨t105, A200, H⟩ := H
    replace H : (some t105) = some r := H
    have A20 := Ax.mk A200
    clear A200
    obtain rfl := Option.some.inj H
    go_wp2_with (first | ((with_reducible refine gate_callee (f := 51) rfl ?_); refine goesL_ (some 31) rfl rfl Tryd.func51 (by kernel_rfl) rfl #[.int .i64 a1] rfl (by (try simp only [List.map_toArray, List.map_cons, List.map_nil]); first | done | rfl | (simp only [List.length_drop, List.length_take]; rfl) | (rw [wrap_sum2 (by assumption)]; rfl)) ?_; (with_reducible refine (span_sized.calls a1 t105 _ A20.out).mono ?_); rintro e w' ⟨rfl, ⟨nd, rfl⟩⟩; refine ⟨_, rfl, ?_⟩))
    go_ret
    exact ⟨by first | rfl | (simp [errW_none, errW_some] <;> rfl) | (simp [*, errW_none, errW_some] <;> rfl), bA⟩
def span_Total.l0 : Nat → Int → List (S53) → Int → Int → Option (Int)
 | 0, _, _, _, _ => none
 | k + 1, x3, x6, x7, x8 => if x8 < x7 then (if 0 ≤ x8 then (if x8 < (x6.length : Int) then (span_Total.l0 k (wrap64 (x3 + (mx ((rd_T53 x6 x8).f1) 0))) x6 x7 (wrap64 (x8 + 1))) else (none)) else (none)) else (some x3)
def span_Total.f (k : Nat) (l0 : List (S53)) : Option (Int) := span_Total.l0 k 0 l0 (l0.length : Int) 0
theorem span_Total.mono_l : ∀ k, (∀ y0 y1 y2 y3, LeO (span_Total.l0 k y0 y1 y2 y3) (span_Total.l0 (k + 1) y0 y1 y2 y3))
 | 0 => fun _ _ _ _ r h => by simp [span_Total.l0] at h
 | k + 1 => by
  have ih0 := span_Total.mono_l k
  ·intro y0 y1 y2 y3
   unfold span_Total.l0
   repeat' first
   | (with_reducible exact ih0 _ _ _ _)
   | (with_reducible exact LeO.refl _)
   | (with_reducible exact LeO.none _)
   | (with_reducible refine LeO.ite ?_ ?_)
   | (with_reducible refine LeO.bind ?_ (fun _ => ?_))
   | exact ih0 _ _ _ _
   | exact LeO.none _
   | refine LeO.ite ?_ ?_
   | refine LeO.bind ?_ (fun _ => ?_)
theorem span_Total.mono : ∀ a0 k, LeO (span_Total.f k a0) (span_Total.f (k + 1) a0) := by
 intro a0 k
 have ih0 := span_Total.mono_l k
 unfold span_Total.f
 repeat' first
   | (with_reducible exact ih0 _ _ _ _)
   | (with_reducible exact LeO.refl _)
   | (with_reducible exact LeO.none _)
   | (with_reducible refine LeO.ite ?_ ?_)
   | (with_reducible refine LeO.bind ?_ (fun _ => ?_))
   | exact ih0 _ _ _ _
   | exact LeO.none _
   | refine LeO.ite ?_ ?_
   | refine LeO.bind ?_ (fun _ => ?_)
set_option maxHeartbeats 8000000 in
set_option maxRecDepth 100000 in
theorem span_Total.calls (k : Nat) (A0 : Option Addr) (c0 : Nat) (l0 : List (S53)) (r : Int) (w : World) (hr0 : Kd.C k53 w A0 l0.length l0) (hc0 : l0.length ≤ c0) (h : span_Total.f k l0 = some r) :
  Calls Tryd.prog 31 #[.slice A0 l0.length c0] w fun e w' => e = .returned (.int .i64 r) ∧ Below w.heap.size w w' := by
 have hu53 := Tryd.underlying53
 have HR0 := Ax.mk hr0
 have HC0 := Ax.mk hc0
 clear hr0 hc0
 have HB := Ax.mk (Below.refl w.heap.size w)
 have H : (span_Total.l0 k 0 l0 (l0.length : Int) 0) = some r := h
 clear h
 have H' := Ax.mk H
 clear H
 go_enter Tryd.func31, Tryd.ntmps31
 go_wp2
 go_loopg [3, 8] k (fun kq v3 v8 w' => ∃ (x3_1 : Int) (x8_1 : Int), v3 = .int .i64 x3_1 ∧ v8 = .int .i64 x8_1 ∧ Ax (span_Total.l0 kq x3_1 l0 (l0.length : Int) x8_1 = some r) ∧ Ax (kq ≤ k) ∧ Ax (Below w.heap.size w w'))
 case atStart => exact ⟨(0), (0), (by first | rfl | (simp; done) | (simp [*]; done)), (by first | rfl | (simp; done) | (simp [*]; done)), H', ⟨Nat.le_refl _⟩, ⟨bA⟩⟩
 case round =>
  clear H'
  obtain ⟨x3_1, x8_1, rfl, rfl, HA, HK1, HB⟩ := hrel
  cases gk with
  | zero => exact absurd HA.out (by simp [span_Total.l0])
  | succ k1 =>
   have H := HA.out
   clear HA
   simp only [span_Total.l0] at H
   by_cases c2 : x8_1 < (l0.length : Int)
   ·rw [if_pos c2] at H
    have c2b0 : decide (x8_1 < (l0.length : Int)) = true := decide_eq_true c2
    clear c2
    by_cases c3 : 0 ≤ x8_1
    ·rw [if_pos c3] at H
     have c3b0 : decide (0 ≤ x8_1) = true := decide_eq_true c3
     clear c3
     by_cases c4 : x8_1 < (l0.length : Int)
     ·rw [if_pos c4] at H
      have c4b0 : decide (x8_1 < (l0.length : Int)) = true := decide_eq_true c4
      clear c4
      obtain ⟨ji5, hji5⟩ : ∃ j_ : Int, (mx ((rd_T53 l0 x8_1).f1) 0) = j_ := ⟨_, rfl⟩
      replace H : (span_Total.l0 k1 (wrap64 (x3_1 + (ji5))) l0 (l0.length : Int) (wrap64 (x8_1 + 1))) = some r := by first | (rw [hji5] at H; exact H) | (simp only [hji5] at H ⊢; exact H)
      have hji5_ : (if ((rd_T53 l0 x8_1).f1) < 0 then 0 else ((rd_T53 l0 x8_1).f1)) = ji5 := hji5
      have H' := Ax.mk H
      clear H
      have p106 : 0 ≤ (x8_1 : Int) := of_decide_eq_true (by first | (with_reducible assumption) | assumption)
      have q106 : x8_1 < (l0.length : Int) := of_decide_eq_true (by first | (with_reducible assumption) | assumption)
      obtain ⟨ad106, e106, hx106_0, hx106_1⟩ := at_T53 HR0.out x8_1 p106 q106
      cases e106
      replace hx106_0 := (HB.out.cell (World.block_lt_of_cell? w _ hx106_0)).trans hx106_0
      replace hx106_1 := (HB.out.cell (World.block_lt_of_cell? w _ hx106_1)).trans hx106_1
      replace p106 := eq_true p106
      replace q106 := eq_true q106
      go_wp2_with (first | ((with_reducible refine gate_dst (N := 5) rfl ?_); refine box_event ?hg (N := 5) ?hd (cs := #[.int .i64 0, .int .i64 0]) (t := 53) ?hr ?_; (case hd => rfl); (case hg => rfl); (case hr => first | (go_simp; done) | (go_simp; rfl)); intro gb107 hg w6 hbox hb; have n0_ := Ax.mk (bP bA hb); have n1_ := Ax.mk (hbox); have n2_ := Ax.mk ((ge_new hg : w.heap.size ≤ gb107)); have n3_ := n2_; clear HB; have HB := n0_; have BK107 := n1_; have GW107 := n2_; have GE107 := n3_; clear n0_ n1_ n2_ n3_; clear hb hbox hg; have hcz7_0 : w6.cell? ⟨gb107, 0, none⟩ = some (.int .i64 0) := (bC BK107.out 0).trans rfl; have hcz7_1 : w6.cell? ⟨gb107, 1, none⟩ = some (.int .i64 0) := (bC BK107.out 1).trans rfl; have hfz7_0 := bF BK107.out 0; have hfz7_1 := bF BK107.out 1))
      go_roundg k1
      case measure => have := HK1.out; omega
      case rel => exact ⟨(wrap64 (x3_1 + (ji5))), (wrap64 (x8_1 + 1)), (by first | rfl | (simp; done) | (simp only [← hji5] <;> (first | rfl | simp)) | (simp [*]; done)), (by first | rfl | (simp; done) | (simp [*]; done)), H', ⟨by have := HK1.out; omega⟩, ⟨bA⟩⟩
     ·rw [if_neg c4] at H
      exact absurd H (by simp)
    ·rw [if_neg c3] at H
     exact absurd H (by simp)
   ·rw [if_neg c2] at H
    have c2b0 : decide (x8_1 < (l0.length : Int)) = false := decide_eq_false c2
    clear c2
    obtain rfl := Option.some.inj H
    go_wp2
    go_ret
    exact ⟨by first | rfl | (simp [errW_none, errW_some] <;> rfl) | (simp [*, errW_none, errW_some] <;> rfl), bA⟩
theorem eqA53 (d : Nat) (w : World) (x0 y0 : Int) (x1 y1 : Int) :
  (Op.equalIn (d + 2) 53 (.agg #[.int .i64 x0, .int .i64 x1]) (.agg #[.int .i64 y0, .int .i64 y1])).run Tryd.prog w = .ok (x0 == y0 && (x1 == y1)) w := by
 refine eqA_of Tryd.underlying53 (by kernel_rfl) ?_
 refine eqf_cons (by rfl) (by go_simp; rfl) (by go_simp; rfl) (by go_simp) ?_
 exact eqf_last (by rfl) (by go_simp; rfl) (by go_simp; rfl) (by go_simp)
def r5_inside.f (a0_0 : Int) (a0_1 : Int) (a1 : Int) : Option (Bool) := if a0_1 ≥ 1 then (if a0_0 ≥ 0 then (if a0_0 < a1 then (some (decide (a0_1 ≤ (wrap64 (a1 - a0_0))))) else (some false)) else (some false)) else (some false)
set_option maxHeartbeats 8000000 in
set_option maxRecDepth 100000 in
theorem r5_inside.calls (a0_0 : Int) (a0_1 : Int) (a1 : Int) (r : Bool) (w : World) (h : r5_inside.f a0_0 a0_1 a1 = some r) :
  Calls Tryd.prog 75 #[.agg #[.int .i64 a0_0, .int .i64 a0_1], .int .i64 a1] w fun e w' => e = .returned (.bool r) ∧ Below w.heap.size w w' := by
 have hu53 := Tryd.underlying53
 have HB := Ax.mk (Below.refl w.heap.size w)
 have H : (if a0_1 ≥ 1 then (if a0_0 ≥ 0 then (if a0_0 < a1 then (some (decide (a0_1 ≤ (wrap64 (a1 - a0_0))))) else (some false)) else (some false)) else (some false)) = some r := h
 clear h
 by_cases c3 : a0_1 ≥ 1
 ·rw [if_pos c3] at H
  have c3b0 : decide (1 ≤ a0_1) = true := decide_eq_true c3
  clear c3
  by_cases c4 : a0_0 ≥ 0
  ·rw [if_pos c4] at H
   have c4b0 : decide (0 ≤ a0_0) = true := decide_eq_true c4
   clear c4
   by_cases c5 : a0_0 < a1
   ·rw [if_pos c5] at H
    have c5b0 : decide (a0_0 < a1) = true := decide_eq_true c5
    clear c5
    obtain rfl := Option.some.inj H
    go_enter Tryd.func75, Tryd.ntmps75
    go_wp2_with (first | ((with_reducible refine gate_dst (N := 2) rfl ?_); refine box_event ?hg (N := 2) ?hd (cs := #[.int .i64 a0_0, .int .i64 a0_1]) (t := 53) ?hr ?_; (case hd => rfl); (case hg => rfl); (case hr => first | (go_simp; done) | (go_simp; rfl)); intro gb162 hg w6 hbox hb; have n0_ := Ax.mk (bP bA hb); have n1_ := Ax.mk (hbox); have n2_ := Ax.mk ((ge_new hg : w.heap.size ≤ gb162)); have n3_ := n2_; clear HB; have HB := n0_; have BK162 := n1_; have GW162 := n2_; have GE162 := n3_; clear n0_ n1_ n2_ n3_; clear hb hbox hg; have hcz7_0 : w6.cell? ⟨gb162, 0, none⟩ = some (.int .i64 a0_0) := (bC BK162.out 0).trans rfl; have hcz7_1 : w6.cell? ⟨gb162, 1, none⟩ = some (.int .i64 a0_1) := (bC BK162.out 1).trans rfl; have hfz7_0 := bF BK162.out 0; have hfz7_1 := bF BK162.out 1))
    go_ret
    exact ⟨by first | rfl | (simp [errW_none, errW_some] <;> rfl) | (simp [*, errW_none, errW_some] <;> rfl), bA⟩
   ·rw [if_neg c5] at H
    have c5b0 : decide (a0_0 < a1) = false := decide_eq_false c5
    clear c5
    obtain rfl := Option.some.inj H
    go_enter Tryd.func75, Tryd.ntmps75
    go_wp2_with (first | ((with_reducible refine gate_dst (N := 2) rfl ?_); refine box_event ?hg (N := 2) ?hd (cs := #[.int .i64 a0_0, .int .i64 a0_1]) (t := 53) ?hr ?_; (case hd => rfl); (case hg => rfl); (case hr => first | (go_simp; done) | (go_simp; rfl)); intro gb162 hg w8 hbox hb; have n0_ := Ax.mk (bP bA hb); have n1_ := Ax.mk (hbox); have n2_ := Ax.mk ((ge_new hg : w.heap.size ≤ gb162)); have n3_ := n2_; clear HB; have HB := n0_; have BK162 := n1_; have GW162 := n2_; have GE162 := n3_; clear n0_ n1_ n2_ n3_; clear hb hbox hg; have hcz9_0 : w8.cell? ⟨gb162, 0, none⟩ = some (.int .i64 a0_0) := (bC BK162.out 0).trans rfl; have hcz9_1 : w8.cell? ⟨gb162, 1, none⟩ = some (.int .i64 a0_1) := (bC BK162.out 1).trans rfl; have hfz9_0 := bF BK162.out 0; have hfz9_1 := bF BK162.out 1))
    go_ret
    exact ⟨by first | rfl | (simp [errW_none, errW_some] <;> rfl) | (simp [*, errW_none, errW_some] <;> rfl), bA⟩
  ·rw [if_neg c4] at H
   have c4b0 : decide (0 ≤ a0_0) = false := decide_eq_false c4
   clear c4
   obtain rfl := Option.some.inj H
   go_enter Tryd.func75, Tryd.ntmps75
   go_wp2_with (first | ((with_reducible refine gate_dst (N := 2) rfl ?_); refine box_event ?hg (N := 2) ?hd (cs := #[.int .i64 a0_0, .int .i64 a0_1]) (t := 53) ?hr ?_; (case hd => rfl); (case hg => rfl); (case hr => first | (go_simp; done) | (go_simp; rfl)); intro gb162 hg w10 hbox hb; have n0_ := Ax.mk (bP bA hb); have n1_ := Ax.mk (hbox); have n2_ := Ax.mk ((ge_new hg : w.heap.size ≤ gb162)); have n3_ := n2_; clear HB; have HB := n0_; have BK162 := n1_; have GW162 := n2_; have GE162 := n3_; clear n0_ n1_ n2_ n3_; clear hb hbox hg; have hcz11_0 : w10.cell? ⟨gb162, 0, none⟩ = some (.int .i64 a0_0) := (bC BK162.out 0).trans rfl; have hcz11_1 : w10.cell? ⟨gb162, 1, none⟩ = some (.int .i64 a0_1) := (bC BK162.out 1).trans rfl; have hfz11_0 := bF BK162.out 0; have hfz11_1 := bF BK162.out 1))
   go_ret
   exact ⟨by first | rfl | (simp [errW_none, errW_some] <;> rfl) | (simp [*, errW_none, errW_some] <;> rfl), bA⟩
 ·rw [if_neg c3] at H
  have c3b0 : decide (1 ≤ a0_1) = false := decide_eq_false c3
  clear c3
  obtain rfl := Option.some.inj H
  go_enter Tryd.func75, Tryd.ntmps75
  go_wp2_with (first | ((with_reducible refine gate_dst (N := 2) rfl ?_); refine box_event ?hg (N := 2) ?hd (cs := #[.int .i64 a0_0, .int .i64 a0_1]) (t := 53) ?hr ?_; (case hd => rfl); (case hg => rfl); (case hr => first | (go_simp; done) | (go_simp; rfl)); intro gb162 hg w12 hbox hb; have n0_ := Ax.mk (bP bA hb); have n1_ := Ax.mk (hbox); have n2_ := Ax.mk ((ge_new hg : w.heap.size ≤ gb162)); have n3_ := n2_; clear HB; have HB := n0_; have BK162 := n1_; have GW162 := n2_; have GE162 := n3_; clear n0_ n1_ n2_ n3_; clear hb hbox hg; have hcz13_0 : w12.cell? ⟨gb162, 0, none⟩ = some (.int .i64 a0_0) := (bC BK162.out 0).trans rfl; have hcz13_1 : w12.cell? ⟨gb162, 1, none⟩ = some (.int .i64 a0_1) := (bC BK162.out 1).trans rfl; have hfz13_0 := bF BK162.out 0; have hfz13_1 := bF BK162.out 1))
  go_ret
  exact ⟨by first | rfl | (simp [errW_none, errW_some] <;> rfl) | (simp [*, errW_none, errW_some] <;> rfl), bA⟩
mutual
def r5_marks.j0 : Nat → List (S53) → Int → Bool → Option (List Bool × Int)
 | 0, _, _, _ => none
 | k + 1, x0, x1, x15 => if x15 = true then (some (([] : List Bool), 11)) else (r5_marks.l0 k x0 x1 0)
def r5_marks.l0 : Nat → List (S53) → Int → Int → Option (List Bool × Int)
 | 0, _, _, _ => none
 | k + 1, x0, x1, x6 => if x6 < (x0.length : Int) then (if 0 ≤ x6 then ((r5_inside.f ((rd_T53 x0 x6).f0) ((rd_T53 x0 x6).f1) x1).bind fun t164 => (if t164 = true then (r5_marks.l0 k x0 x1 (wrap64 (x6 + 1))) else (some (([] : List Bool), 11)))) else (none)) else (if 0 ≤ x1 then (if (x1 : Int).toNat ≤ 281474976710656 then (r5_marks.l1 k x0 (List.replicate (x1 : Int).toNat false) 0) else (none)) else (none))
def r5_marks.l1 : Nat → List (S53) → List Bool → Int → Option (List Bool × Int)
 | 0, _, _, _ => none
 | k + 1, x0, x7, x8 => if x8 < (x0.length : Int) then (if 0 ≤ x8 then (r5_marks.l2 k x0 x7 x8 ((rd_T53 x0 x8).f0)) else (none)) else (some (x7, 0))
def r5_marks.l2 : Nat → List (S53) → List Bool → Int → Int → Option (List Bool × Int)
 | 0, _, _, _, _ => none
 | k + 1, x0, x7, x8, x9 => if 0 ≤ x8 then (if x8 < (x0.length : Int) then (if x9 < (wrap64 (((rd_T53 x0 x8).f0) + ((rd_T53 x0 x8).f1))) then (if 0 ≤ x9 then (if x9 < (x7.length : Int) then (if rdOf false x7 x9 = true then (some (([] : List Bool), 5)) else (r5_marks.l2 k x0 (x7.set (x9 : Int).toNat true) x8 (wrap64 (x9 + 1)))) else (none)) else (none)) else (r5_marks.l1 k x0 x7 (wrap64 (x8 + 1)))) else (none)) else (none)
end
def r5_marks.f (k : Nat) (l0 : List (S53)) (a1 : Int) : Option (List Bool × Int) := if a1 < 1 then (r5_marks.j0 k l0 a1 true) else (r5_marks.j0 k l0 a1 (decide (a1 > 8192)))
theorem r5_marks.mono_l : ∀ k, (∀ y0 y1 y2, LeO (r5_marks.j0 k y0 y1 y2) (r5_marks.j0 (k + 1) y0 y1 y2)) ∧ (∀ y0 y1 y2, LeO (r5_marks.l0 k y0 y1 y2) (r5_marks.l0 (k + 1) y0 y1 y2)) ∧ (∀ y0 y1 y2, LeO (r5_marks.l1 k y0 y1 y2) (r5_marks.l1 (k + 1) y0 y1 y2)) ∧ (∀ y0 y1 y2 y3, LeO (r5_marks.l2 k y0 y1 y2 y3) (r5_marks.l2 (k + 1) y0 y1 y2 y3))
 | 0 => ⟨fun _ _ _ r h => by simp [r5_marks.j0] at h, fun _ _ _ r h => by simp [r5_marks.l0] at h, fun _ _ _ r h => by simp [r5_marks.l1] at h, fun _ _ _ _ r h => by simp [r5_marks.l2] at h⟩
 | k + 1 => by
  obtain ⟨ih0, ih1, ih2, ih3⟩ := r5_marks.mono_l k
  refine ⟨?_, ?_, ?_, ?_⟩
  ·intro y0 y1 y2
   unfold r5_marks.j0
   repeat' first
   | (with_reducible exact ih0 _ _ _)
   | (with_reducible exact ih1 _ _ _)
   | (with_reducible exact ih2 _ _ _)
   | (with_reducible exact ih3 _ _ _ _)
   | (with_reducible exact LeO.refl _)
   | (with_reducible exact LeO.none _)
   | (with_reducible refine LeO.ite ?_ ?_)
   | (with_reducible refine LeO.bind ?_ (fun _ => ?_))
   | exact ih0 _ _ _
   | exact ih1 _ _ _
   | exact ih2 _ _ _
   | exact ih3 _ _ _ _
   | exact LeO.none _
   | refine LeO.ite ?_ ?_
   | refine LeO.bind ?_ (fun _ => ?_)
  ·intro y0 y1 y2
   unfold r5_marks.l0
   repeat' first
   | (with_reducible exact ih0 _ _ _)
   | (with_reducible exact ih1 _ _ _)
   | (with_reducible exact ih2 _ _ _)
   | (with_reducible exact ih3 _ _ _ _)
   | (with_reducible exact LeO.refl _)
   | (with_reducible exact LeO.none _)
   | (with_reducible refine LeO.ite ?_ ?_)
   | (with_reducible refine LeO.bind ?_ (fun _ => ?_))
   | exact ih0 _ _ _
   | exact ih1 _ _ _
   | exact ih2 _ _ _
   | exact ih3 _ _ _ _
   | exact LeO.none _
   | refine LeO.ite ?_ ?_
   | refine LeO.bind ?_ (fun _ => ?_)
  ·intro y0 y1 y2
   unfold r5_marks.l1
   repeat' first
   | (with_reducible exact ih0 _ _ _)
   | (with_reducible exact ih1 _ _ _)
   | (with_reducible exact ih2 _ _ _)
   | (with_reducible exact ih3 _ _ _ _)
   | (with_reducible exact LeO.refl _)
   | (with_reducible exact LeO.none _)
   | (with_reducible refine LeO.ite ?_ ?_)
   | (with_reducible refine LeO.bind ?_ (fun _ => ?_))
   | exact ih0 _ _ _
   | exact ih1 _ _ _
   | exact ih2 _ _ _
   | exact ih3 _ _ _ _
   | exact LeO.none _
   | refine LeO.ite ?_ ?_
   | refine LeO.bind ?_ (fun _ => ?_)
  ·intro y0 y1 y2 y3
   unfold r5_marks.l2
   repeat' first
   | (with_reducible exact ih0 _ _ _)
   | (with_reducible exact ih1 _ _ _)
   | (with_reducible exact ih2 _ _ _)
   | (with_reducible exact ih3 _ _ _ _)
   | (with_reducible exact LeO.refl _)
   | (with_reducible exact LeO.none _)
   | (with_reducible refine LeO.ite ?_ ?_)
   | (with_reducible refine LeO.bind ?_ (fun _ => ?_))
   | exact ih0 _ _ _
   | exact ih1 _ _ _
   | exact ih2 _ _ _
   | exact ih3 _ _ _ _
   | exact LeO.none _
   | refine LeO.ite ?_ ?_
   | refine LeO.bind ?_ (fun _ => ?_)
theorem r5_marks.mono : ∀ a0 a1 k, LeO (r5_marks.f k a0 a1) (r5_marks.f (k + 1) a0 a1) := by
 intro a0 a1 k
 obtain ⟨ih0, ih1, ih2, ih3⟩ := r5_marks.mono_l k
 unfold r5_marks.f
 repeat' first
   | (with_reducible exact ih0 _ _ _)
   | (with_reducible exact ih1 _ _ _)
   | (with_reducible exact ih2 _ _ _)
   | (with_reducible exact ih3 _ _ _ _)
   | (with_reducible exact LeO.refl _)
   | (with_reducible exact LeO.none _)
   | (with_reducible refine LeO.ite ?_ ?_)
   | (with_reducible refine LeO.bind ?_ (fun _ => ?_))
   | exact ih0 _ _ _
   | exact ih1 _ _ _
   | exact ih2 _ _ _
   | exact ih3 _ _ _ _
   | exact LeO.none _
   | refine LeO.ite ?_ ?_
   | refine LeO.bind ?_ (fun _ => ?_)
set_option maxHeartbeats 8000000 in
set_option maxRecDepth 100000 in
theorem r5_marks.calls (k : Nat) (A0 : Option Addr) (c0 : Nat) (l0 : List (S53)) (a1 : Int) (r1 : List Bool) (r2 : Int) (w : World) (hr0 : Kd.C k53 w A0 l0.length l0) (hc0 : l0.length ≤ c0) (h : r5_marks.f k l0 a1 = some (r1, r2)) :
  Calls Tryd.prog 68 #[.slice A0 l0.length c0, .int .i64 a1] w fun e w' => ∃ v0_ : Value, e = .returned (.tuple #[v0_, .int .i64 r2]) ∧ Kd.R Kd.bool 4 w' w.heap.size (fun _ => True) v0_ r1 ∧ Below w.heap.size w w' := by
 have hu53 := Tryd.underlying53
 have HR0 := Ax.mk hr0
 have HC0 := Ax.mk hc0
 clear hr0 hc0
 have HB := Ax.mk (Below.refl w.heap.size w)
 have H : (if a1 < 1 then (r5_marks.j0 k l0 a1 true) else (r5_marks.j0 k l0 a1 (decide (a1 > 8192)))) = some (r1, r2) := h
 clear h
 have HC3 := Ax.mk H
 clear H
 go_enter Tryd.func68, Tryd.ntmps68
 go_upto_region 1 with (fail)
 repeat (go_quiet (fail); go_upto_region 1 with (fail))
 go_cut [15] (fun v15 wc => ∃ (kq : Nat) (x15_2 : Bool), v15 = .bool x15_2 ∧ Ax (r5_marks.j0 kq l0 a1 x15_2 = some (r1, r2)) ∧ Ax (kq ≤ k) ∧ Ax (Below w.heap.size w wc))
 case first =>
  have H := HC3.out
  clear HC3
  by_cases c4 : a1 < 1
  ·rw [if_pos c4] at H
   have c4b0 : decide (a1 < 1) = true := decide_eq_true c4
   clear c4
   (first | rw [c4b0] | (simp only [i64_w, i32_w]; rw [c4b0]) | skip)
   have H' := Ax.mk H
   clear H
   go_wp2
   repeat (go_quiet (fail); try go_wp2)
   go_meet
   case rel => exact ⟨_, (true), (by first | rfl | (simp; done) | (simp [*]; done)), H', ⟨by first | omega | exact Nat.le_refl _⟩, ⟨bA⟩⟩
  ·rw [if_neg c4] at H
   have c4b0 : decide (a1 < 1) = false := decide_eq_false c4
   clear c4
   (first | rw [c4b0] | (simp only [i64_w, i32_w]; rw [c4b0]) | skip)
   have H' := Ax.mk H
   clear H
   go_wp2
   repeat (go_quiet (fail); try go_wp2)
   go_meet
   case rel => exact ⟨_, (decide (a1 > 8192)), (by first | rfl | (simp; done) | (simp [*]; done)), H', ⟨by first | omega | exact Nat.le_refl _⟩, ⟨bA⟩⟩
 case rest =>
  clear HC3
  try clear p2
  try clear c4
  try clear c4b0
  obtain ⟨kq, x15_2, rfl, HA, HJ2, HB⟩ := hcut
  cases kq with
  | zero => exact absurd HA.out (by simp [r5_marks.j0])
  | succ kj2 =>
   have H := HA.out
   clear HA
   simp only [r5_marks.j0] at H
   by_cases c5 : x15_2 = true
   ·subst c5
    have H1 : (some (([] : List Bool), 11)) = some (r1, r2) := by rw [if_pos rfl] at H; exact H
    clear H
    have H := H1
    clear H1
    simp only [Option.some.injEq, Prod.mk.injEq] at H
    obtain ⟨rfl, rfl⟩ := H
    go_wp2
    repeat (go_quiet (fail); try go_wp2)
    go_ret2
    exact ⟨_, by first | rfl | (simp [errW_none, errW_some] <;> rfl) | (simp [*, errW_none, errW_some] <;> rfl), by first | exact Kd.R_nil _ _ _ _ _ | exact Kd.N_nil _ _ _ _ _ | exact Kd.V_nil _ _ _ _ _ | exact Kd.Q_nil _ _ _ _ _ | exact Kd.S_nil _ _ _ _ _, bA⟩
   ·replace c5 := Bool.eq_false_iff.mpr c5
    subst c5
    have H1 : (r5_marks.l0 kj2 l0 a1 0) = some (r1, r2) := by rw [if_neg (show ¬ (false = true) by decide)] at H; exact H
    clear H
    have H := H1
    clear H1
    have H' := Ax.mk H
    clear H
    go_wp2
    repeat (go_quiet (fail); try go_wp2)
    go_loopg [6] kj2 (fun kq v6 w' => ∃ (x6_2 : Int), v6 = .int .i64 x6_2 ∧ Ax (r5_marks.l0 kq l0 a1 x6_2 = some (r1, r2)) ∧ Ax (kq ≤ kj2) ∧ Ax (Below w.heap.size w w'))
    case atStart => exact ⟨(0), (by first | rfl | (simp; done) | (simp [*]; done)), H', ⟨Nat.le_refl _⟩, ⟨bA⟩⟩
    case round =>
     clear H'
     try clear p2
     try clear c4
     try clear c4b0
     try clear c5
     try clear p2
     obtain ⟨x6_2, rfl, HA, HK2, HB⟩ := hrel
     cases gk with
     | zero => exact absurd HA.out (by simp [r5_marks.l0])
     | succ k2 =>
      have H := HA.out
      clear HA
      simp only [r5_marks.l0] at H
      by_cases c6 : x6_2 < (l0.length : Int)
      ·rw [if_pos c6] at H
       have c6b0 : decide (x6_2 < (l0.length : Int)) = true := decide_eq_true c6
       clear c6
       by_cases c7 : 0 ≤ x6_2
       ·rw [if_pos c7] at H
        have c7b0 : decide (0 ≤ x6_2) = true := decide_eq_true c7
        clear c7
        replace H := Option.bind_eq_some_iff.mp H
        obtain ⟨t164, A80, H⟩ := H
        replace H : (if t164 = true then (r5_marks.l0 k2 l0 a1 (wrap64 (x6_2 + 1))) else (some (([] : List Bool), 11))) = some (r1, r2) := H
        have A8 := Ax.mk A80
        clear A80
        by_cases c9 : t164 = true
        ·subst c9
         have H1 : (r5_marks.l0 k2 l0 a1 (wrap64 (x6_2 + 1))) = some (r1, r2) := by rw [if_pos rfl] at H; exact H
         clear H
         have H := H1
         clear H1
         have H' := Ax.mk H
         clear H
         have p163 : 0 ≤ (x6_2 : Int) := of_decide_eq_true (by first | (with_reducible assumption) | assumption)
         have q163 : x6_2 < (l0.length : Int) := of_decide_eq_true (by first | (with_reducible assumption) | assumption)
         obtain ⟨ad163, e163, hx163_0, hx163_1⟩ := at_T53 HR0.out x6_2 p163 q163
         cases e163
         replace hx163_0 := (HB.out.cell (World.block_lt_of_cell? w _ hx163_0)).trans hx163_0
         replace hx163_1 := (HB.out.cell (World.block_lt_of_cell? w _ hx163_1)).trans hx163_1
         replace p163 := eq_true p163
         replace q163 := eq_true q163
         go_wp2_with (first | (go_at_call 75; (with_reducible refine (r5_inside.calls ((rd_T53 l0 x6_2).f0) ((rd_T53 l0 x6_2).f1) a1 true _ A8.out).mono ?_); rintro e w10 ⟨rfl, hb⟩; have n0_ := Ax.mk (bP bA hb); clear HB; have HB := n0_; clear n0_; (try clear hb); (try clear hb2); (try clear hk); (try clear hi)))
         repeat (go_quiet (first | (go_at_call 75; (with_reducible refine (r5_inside.calls ((rd_T53 l0 x6_2).f0) ((rd_T53 l0 x6_2).f1) a1 true _ A8.out).mono ?_); rintro e w10 ⟨rfl, hb⟩; have n0_ := Ax.mk (bP bA hb); clear HB; have HB := n0_; clear n0_; (try clear hb); (try clear hb2); (try clear hk); (try clear hi))); try go_wp2_with (first | (go_at_call 75; (with_reducible refine (r5_inside.calls ((rd_T53 l0 x6_2).f0) ((rd_T53 l0 x6_2).f1) a1 true _ A8.out).mono ?_); rintro e w10 ⟨rfl, hb⟩; have n0_ := Ax.mk (bP bA hb); clear HB; have HB := n0_; clear n0_; (try clear hb); (try clear hb2); (try clear hk); (try clear hi))))
         go_roundg k2
         case measure => have := HJ2.out; have := HK2.out; omega
         case rel => exact ⟨(wrap64 (x6_2 + 1)), (by first | rfl | (simp; done) | (simp [*]; done)), H', ⟨by have := HJ2.out; have := HK2.out; omega⟩, ⟨bA⟩⟩
        ·replace c9 := Bool.eq_false_iff.mpr c9
         subst c9
         have H1 : (some (([] : List Bool), 11)) = some (r1, r2) := by rw [if_neg (show ¬ (false = true) by decide)] at H; exact H
         clear H
         have H := H1
         clear H1
         simp only [Option.some.injEq, Prod.mk.injEq] at H
         obtain ⟨rfl, rfl⟩ := H
         have p163 : 0 ≤ (x6_2 : Int) := of_decide_eq_true (by first | (with_reducible assumption) | assumption)
         have q163 : x6_2 < (l0.length : Int) := of_decide_eq_true (by first | (with_reducible assumption) | assumption)
         obtain ⟨ad163, e163, hx163_0, hx163_1⟩ := at_T53 HR0.out x6_2 p163 q163
         cases e163
         replace hx163_0 := (HB.out.cell (World.block_lt_of_cell? w _ hx163_0)).trans hx163_0
         replace hx163_1 := (HB.out.cell (World.block_lt_of_cell? w _ hx163_1)).trans hx163_1
         replace p163 := eq_true p163
         replace q163 := eq_true q163
         go_wp2_with (first | (go_at_call 75; (with_reducible refine (r5_inside.calls ((rd_T53 l0 x6_2).f0) ((rd_T53 l0 x6_2).f1) a1 false _ A8.out).mono ?_); rintro e w11 ⟨rfl, hb⟩; have n0_ := Ax.mk (bP bA hb); clear HB; have HB := n0_; clear n0_; (try clear hb); (try clear hb2); (try clear hk); (try clear hi)))
         repeat (go_quiet (first | (go_at_call 75; (with_reducible refine (r5_inside.calls ((rd_T53 l0 x6_2).f0) ((rd_T53 l0 x6_2).f1) a1 false _ A8.out).mono ?_); rintro e w11 ⟨rfl, hb⟩; have n0_ := Ax.mk (bP bA hb); clear HB; have HB := n0_; clear n0_; (try clear hb); (try clear hb2); (try clear hk); (try clear hi))); try go_wp2_with (first | (go_at_call 75; (with_reducible refine (r5_inside.calls ((rd_T53 l0 x6_2).f0) ((rd_T53 l0 x6_2).f1) a1 false _ A8.out).mono ?_); rintro e w11 ⟨rfl, hb⟩; have n0_ := Ax.mk (bP bA hb); clear HB; have HB := n0_; clear n0_; (try clear hb); (try clear hb2); (try clear hk); (try clear hi))))
         go_ret2
         exact ⟨_, by first | rfl | (simp [errW_none, errW_some] <;> rfl) | (simp [*, errW_none, errW_some] <;> rfl), by first | exact Kd.R_nil _ _ _ _ _ | exact Kd.N_nil _ _ _ _ _ | exact Kd.V_nil _ _ _ _ _ | exact Kd.Q_nil _ _ _ _ _ | exact Kd.S_nil _ _ _ _ _, bA⟩
       ·rw [if_neg c7] at H
        exact absurd H (by simp)
      ·rw [if_neg c6] at H
       have c6b0 : decide (x6_2 < (l0.length : Int)) = false := decide_eq_false c6
       clear c6
       by_cases c12 : 0 ≤ a1
       ·rw [if_pos c12] at H
        have c12b0 := eq_true c12
        have c12b1 : decide (0 ≤ a1) = true := decide_eq_true c12
        clear c12
        by_cases c13 : (a1 : Int).toNat ≤ 281474976710656
        ·rw [if_pos c13] at H
         have c13b0 := eq_true c13
         have c13b1 : decide ((a1 : Int).toNat ≤ 281474976710656) = true := decide_eq_true c13
         clear c13
         obtain ⟨y165, hy165⟩ : ∃ y_ : List Bool, y_ = (List.replicate (a1 : Int).toNat false) := ⟨_, rfl⟩
         replace H : (r5_marks.l1 k2 l0 y165 0) = some (r1, r2) := by first | (rw [hy165]; with_reducible exact H) | (have H2_ := (Option.bind_some _ _).symm.trans H; rw [hy165]; with_reducible exact H2_) | (have H2_ := (Option.bind_some _ _).symm.trans H; with_reducible exact H2_) | with_reducible exact H | (rw [hy165]; exact H) | exact H
         have Ny165 := Ax.mk hy165
         clear hy165
         have H' := Ax.mk H
         clear H
         go_wp2_with (first | ((with_reducible refine gate_dst (N := 30) rfl ?_); refine Kd.R_make Kd.bool _ 4 rfl (N := 30) rfl 106 _ _ rfl a1 rfl rfl Tryd.underlying106 (.bool false) 1 info4 rfl (by decide) (by omega) false (ok := fun _ => True) (okp := fun _ => True) rfl (fun _ hk => hk) trivial (of_decide_eq_true (by first | (with_reducible assumption) | assumption)) (Nat.le_trans (Nat.mul_le_mul_right _ (of_decide_eq_true (by first | (with_reducible assumption) | assumption) : a1.toNat ≤ 281474976710656)) (by omega)) (Below.refl _ _) (Nat.le_refl _) ?_; intro v166 w14 ho15 hb hg_ hnew_; clear hg_ hnew_; (first | rw [← Ny165.out] at ho15 | (simp only [Int.reduceToNat] at ho15; rw [← Ny165.out] at ho15)); have n0_ := Ax.mk (Kd.R_lower ho15 (bS bA)); have n1_ := Ax.mk (bP bA hb); clear HB; have HO167 := n0_; have HB := n1_; clear n0_ n1_; clear hb ho15))
         repeat (go_quiet (first | ((with_reducible refine gate_dst (N := 30) rfl ?_); refine Kd.R_make Kd.bool _ 4 rfl (N := 30) rfl 106 _ _ rfl a1 rfl rfl Tryd.underlying106 (.bool false) 1 info4 rfl (by decide) (by omega) false (ok := fun _ => True) (okp := fun _ => True) rfl (fun _ hk => hk) trivial (of_decide_eq_true (by first | (with_reducible assumption) | assumption)) (Nat.le_trans (Nat.mul_le_mul_right _ (of_decide_eq_true (by first | (with_reducible assumption) | assumption) : a1.toNat ≤ 281474976710656)) (by omega)) (Below.refl _ _) (Nat.le_refl _) ?_; intro v166 w14 ho15 hb hg_ hnew_; clear hg_ hnew_; (first | rw [← Ny165.out] at ho15 | (simp only [Int.reduceToNat] at ho15; rw [← Ny165.out] at ho15)); have n0_ := Ax.mk (Kd.R_lower ho15 (bS bA)); have n1_ := Ax.mk (bP bA hb); clear HB; have HO167 := n0_; have HB := n1_; clear n0_ n1_; clear hb ho15)); try go_wp2_with (first | ((with_reducible refine gate_dst (N := 30) rfl ?_); refine Kd.R_make Kd.bool _ 4 rfl (N := 30) rfl 106 _ _ rfl a1 rfl rfl Tryd.underlying106 (.bool false) 1 info4 rfl (by decide) (by omega) false (ok := fun _ => True) (okp := fun _ => True) rfl (fun _ hk => hk) trivial (of_decide_eq_true (by first | (with_reducible assumption) | assumption)) (Nat.le_trans (Nat.mul_le_mul_right _ (of_decide_eq_true (by first | (with_reducible assumption) | assumption) : a1.toNat ≤ 281474976710656)) (by omega)) (Below.refl _ _) (Nat.le_refl _) ?_; intro v166 w14 ho15 hb hg_ hnew_; clear hg_ hnew_; (first | rw [← Ny165.out] at ho15 | (simp only [Int.reduceToNat] at ho15; rw [← Ny165.out] at ho15)); have n0_ := Ax.mk (Kd.R_lower ho15 (bS bA)); have n1_ := Ax.mk (bP bA hb); clear HB; have HO167 := n0_; have HB := n1_; clear n0_ n1_; clear hb ho15)))
         go_loopg [8] k2 (fun kq v8 w' => ∃ (x7_3 : List Bool) (x8_3 : Int), v8 = .int .i64 x8_3 ∧ Ax (r5_marks.l1 kq l0 x7_3 x8_3 = some (r1, r2)) ∧ Ax (kq ≤ k2) ∧ Ax (Kd.R Kd.bool 4 w' w.heap.size (fun _ => True) v166 x7_3) ∧ Ax (Below w.heap.size w w'))
         case atStart => exact ⟨(y165), (0), (by first | rfl | (simp; done) | (simp [*]; done)), H', ⟨Nat.le_refl _⟩, ⟨by apply Kd.R_to; exact HO167.out⟩, ⟨bA⟩⟩
         case round =>
          clear H'
          try clear c1
          try clear p1
          try clear q1
          try clear hx1
          try clear p2
          try clear c4
          try clear c4b0
          try clear c5
          try clear c6
          try clear c6b0
          try clear p6
          try clear c7
          try clear c7b0
          try clear c9
          try clear c12
          try clear c12b0
          try clear c12b1
          try clear c13
          try clear c13b0
          try clear c13b1
          try clear hx163_0
          try clear hx163_1
          try clear p163
          try clear p2
          try clear q163
          obtain ⟨x7_3, x8_3, rfl, HA, HK3, HO_7, HB⟩ := hrel
          cases gk with
          | zero => exact absurd HA.out (by simp [r5_marks.l1])
          | succ k3 =>
           have H := HA.out
           clear HA
           simp only [r5_marks.l1] at H
           by_cases c16 : x8_3 < (l0.length : Int)
           ·rw [if_pos c16] at H
            have c16b0 : decide (x8_3 < (l0.length : Int)) = true := decide_eq_true c16
            clear c16
            by_cases c17 : 0 ≤ x8_3
            ·rw [if_pos c17] at H
             have c17b0 : decide (0 ≤ x8_3) = true := decide_eq_true c17
             clear c17
             have H' := Ax.mk H
             clear H
             have p168 : 0 ≤ (x8_3 : Int) := of_decide_eq_true (by first | (with_reducible assumption) | assumption)
             have q168 : x8_3 < (l0.length : Int) := of_decide_eq_true (by first | (with_reducible assumption) | assumption)
             obtain ⟨ad168, e168, hx168_0, hx168_1⟩ := at_T53 HR0.out x8_3 p168 q168
             cases e168
             replace hx168_0 := (HB.out.cell (World.block_lt_of_cell? w _ hx168_0)).trans hx168_0
             replace hx168_1 := (HB.out.cell (World.block_lt_of_cell? w _ hx168_1)).trans hx168_1
             replace p168 := eq_true p168
             replace q168 := eq_true q168
             go_wp2
             repeat (go_quiet (fail); try go_wp2)
             go_loopg [9] k3 (fun kq v9 w' => ∃ (x7_4 : List Bool) (x9_4 : Int), v9 = .int .i64 x9_4 ∧ Ax (r5_marks.l2 kq l0 x7_4 x8_3 x9_4 = some (r1, r2)) ∧ Ax (kq ≤ k3) ∧ Ax (Kd.R Kd.bool 4 w' w.heap.size (fun _ => True) v166 x7_4) ∧ Ax (Below w.heap.size w w'))
             case atStart => exact ⟨(x7_3), ((rd_T53 l0 x8_3).f0), (by first | rfl | (simp; done) | (simp [*]; done)), H', ⟨Nat.le_refl _⟩, ⟨by apply Kd.R_to; exact HO_7.out⟩, ⟨bA⟩⟩
             case round =>
              clear H'
              try clear c1
              try clear p1
              try clear q1
              try clear hx1
              try clear p2
              try clear c4
              try clear c4b0
              try clear c5
              try clear c6
              try clear c6b0
              try clear p6
              try clear c7
              try clear c7b0
              try clear c9
              try clear c12
              try clear c12b0
              try clear c12b1
              try clear c13
              try clear c13b0
              try clear c13b1
              try clear c16
              try clear c16b0
              try clear p16
              try clear q16
              try clear hx16
              try clear c17
              try clear c17b0
              try clear hx163_0
              try clear hx163_1
              try clear hx168_0
              try clear hx168_1
              try clear p1
              try clear p163
              try clear p168
              try clear p2
              try clear p6
              try clear q1
              try clear q163
              try clear q168
              obtain ⟨x7_4, x9_4, rfl, HA, HK4, HO_7, HB⟩ := hrel
              cases gk with
              | zero => exact absurd HA.out (by simp [r5_marks.l2])
              | succ k4 =>
               have H := HA.out
               clear HA
               simp only [r5_marks.l2] at H
               by_cases c18 : 0 ≤ x8_3
               ·rw [if_pos c18] at H
                have c18b0 : decide (0 ≤ x8_3) = true := decide_eq_true c18
                clear c18
                by_cases c19 : x8_3 < (l0.length : Int)
                ·rw [if_pos c19] at H
                 have c19b0 : decide (x8_3 < (l0.length : Int)) = true := decide_eq_true c19
                 clear c19
                 by_cases c20 : x9_4 < (wrap64 (((rd_T53 l0 x8_3).f0) + ((rd_T53 l0 x8_3).f1)))
                 ·rw [if_pos c20] at H
                  have c20b0 : decide (x9_4 < (wrap64 (((rd_T53 l0 x8_3).f0) + ((rd_T53 l0 x8_3).f1)))) = true := decide_eq_true c20
                  clear c20
                  by_cases c21 : 0 ≤ x9_4
                  ·rw [if_pos c21] at H
                   have c21b0 : decide (0 ≤ x9_4) = true := decide_eq_true c21
                   clear c21
                   by_cases c22 : x9_4 < (x7_4.length : Int)
                   ·rw [if_pos c22] at H
                    have c22b0 : decide (x9_4 < (x7_4.length : Int)) = true := decide_eq_true c22
                    clear c22
                    obtain ⟨bq23, hbq23⟩ : ∃ b_ : Bool, b_ = (rdOf false x7_4 x9_4) := ⟨_, rfl⟩
                    replace H : (if bq23 = true then (some (([] : List Bool), 5)) else (r5_marks.l2 k4 l0 (x7_4.set (x9_4 : Int).toNat true) x8_3 (wrap64 (x9_4 + 1)))) = some (r1, r2) := by rw [← hbq23] at H; exact H
                    have Nbq23 := Ax.mk hbq23
                    clear hbq23
                    by_cases c24 : bq23 = true
                    ·subst c24
                     have H1 : (some (([] : List Bool), 5)) = some (r1, r2) := by rw [if_pos rfl] at H; exact H
                     clear H
                     have H := H1
                     clear H1
                     simp only [Option.some.injEq, Prod.mk.injEq] at H
                     obtain ⟨rfl, rfl⟩ := H
                     have p169 : 0 ≤ (x8_3 : Int) := of_decide_eq_true (by first | (with_reducible assumption) | assumption)
                     have q169 : x8_3 < (l0.length : Int) := of_decide_eq_true (by first | (with_reducible assumption) | assumption)
                     obtain ⟨ad169, e169, hx169_0, hx169_1⟩ := at_T53 HR0.out x8_3 p169 q169
                     obtain rfl : ad168 = ad169 := (by injection e169)
                     replace hx169_0 := (HB.out.cell (World.block_lt_of_cell? w _ hx169_0)).trans hx169_0
                     replace hx169_1 := (HB.out.cell (World.block_lt_of_cell? w _ hx169_1)).trans hx169_1
                     replace p169 := eq_true p169
                     replace q169 := eq_true q169
                     have p170 : 0 ≤ (x8_3 : Int) := of_decide_eq_true (by first | (with_reducible assumption) | assumption)
                     have q170 : x8_3 < (l0.length : Int) := of_decide_eq_true (by first | (with_reducible assumption) | assumption)
                     obtain ⟨ad170, e170, hx170_0, hx170_1⟩ := at_T53 HR0.out x8_3 p170 q170
                     obtain rfl : ad168 = ad170 := (by injection e170)
                     replace hx170_0 := (HB.out.cell (World.block_lt_of_cell? w _ hx170_0)).trans hx170_0
                     replace hx170_1 := (HB.out.cell (World.block_lt_of_cell? w _ hx170_1)).trans hx170_1
                     replace p170 := eq_true p170
                     replace q170 := eq_true q170
                     obtain ⟨Ao25, co25, eo25⟩ := Kd.R_slice HO_7.out
                     subst eo25
                     have p171 : 0 ≤ (x9_4 : Int) := of_decide_eq_true (by first | (with_reducible assumption) | assumption)
                     have q171 : x9_4 < (x7_4.length : Int) := of_decide_eq_true (by first | (with_reducible assumption) | assumption)
                     obtain ⟨ad171, e171, hx171_0⟩ := Kd.at_bool (Kd.R_reads' HO_7.out).2.2 x9_4 p171 q171
                     (try rw [← Nbq23.out] at hx171_0)
                     cases e171
                     replace p171 := eq_true p171
                     replace q171 := eq_true q171
                     go_wp2
                     repeat (go_quiet (fail); try go_wp2)
                     go_ret2
                     exact ⟨_, by first | rfl | (simp [errW_none, errW_some] <;> rfl) | (simp [*, errW_none, errW_some] <;> rfl), by first | exact Kd.R_nil _ _ _ _ _ | exact Kd.N_nil _ _ _ _ _ | exact Kd.V_nil _ _ _ _ _ | exact Kd.Q_nil _ _ _ _ _ | exact Kd.S_nil _ _ _ _ _, bA⟩
                    ·replace c24 := Bool.eq_false_iff.mpr c24
                     subst c24
                     have H1 : (r5_marks.l2 k4 l0 (x7_4.set (x9_4 : Int).toNat true) x8_3 (wrap64 (x9_4 + 1))) = some (r1, r2) := by rw [if_neg (show ¬ (false = true) by decide)] at H; exact H
                     clear H
                     have H := H1
                     clear H1
                     obtain ⟨y172, hy172⟩ : ∃ y_ : List Bool, y_ = (x7_4.set (x9_4 : Int).toNat true) := ⟨_, rfl⟩
                     replace H : (r5_marks.l2 k4 l0 y172 x8_3 (wrap64 (x9_4 + 1))) = some (r1, r2) := by first | (rw [hy172]; with_reducible exact H) | (have H2_ := (Option.bind_some _ _).symm.trans H; rw [hy172]; with_reducible exact H2_) | (have H2_ := (Option.bind_some _ _).symm.trans H; with_reducible exact H2_) | with_reducible exact H | (rw [hy172]; exact H) | exact H
                     have Ny172 := Ax.mk hy172
                     clear hy172
                     have H' := Ax.mk H
                     clear H
                     have p169 : 0 ≤ (x8_3 : Int) := of_decide_eq_true (by first | (with_reducible assumption) | assumption)
                     have q169 : x8_3 < (l0.length : Int) := of_decide_eq_true (by first | (with_reducible assumption) | assumption)
                     obtain ⟨ad169, e169, hx169_0, hx169_1⟩ := at_T53 HR0.out x8_3 p169 q169
                     obtain rfl : ad168 = ad169 := (by injection e169)
                     replace hx169_0 := (HB.out.cell (World.block_lt_of_cell? w _ hx169_0)).trans hx169_0
                     replace hx169_1 := (HB.out.cell (World.block_lt_of_cell? w _ hx169_1)).trans hx169_1
                     replace p169 := eq_true p169
                     replace q169 := eq_true q169
                     have p170 : 0 ≤ (x8_3 : Int) := of_decide_eq_true (by first | (with_reducible assumption) | assumption)
                     have q170 : x8_3 < (l0.length : Int) := of_decide_eq_true (by first | (with_reducible assumption) | assumption)
                     obtain ⟨ad170, e170, hx170_0, hx170_1⟩ := at_T53 HR0.out x8_3 p170 q170
                     obtain rfl : ad168 = ad170 := (by injection e170)
                     replace hx170_0 := (HB.out.cell (World.block_lt_of_cell? w _ hx170_0)).trans hx170_0
                     replace hx170_1 := (HB.out.cell (World.block_lt_of_cell? w _ hx170_1)).trans hx170_1
                     replace p170 := eq_true p170
                     replace q170 := eq_true q170
                     obtain ⟨Ao27, co27, eo27⟩ := Kd.R_slice HO_7.out
                     subst eo27
                     have p171 : 0 ≤ (x9_4 : Int) := of_decide_eq_true (by first | (with_reducible assumption) | assumption)
                     have q171 : x9_4 < (x7_4.length : Int) := of_decide_eq_true (by first | (with_reducible assumption) | assumption)
                     obtain ⟨ad171, e171, hx171_0⟩ := Kd.at_bool (Kd.R_reads' HO_7.out).2.2 x9_4 p171 q171
                     (try rw [← Nbq23.out] at hx171_0)
                     cases e171
                     replace p171 := eq_true p171
                     replace q171 := eq_true q171
                     have p26 : 0 ≤ (x9_4 : Int) := of_decide_eq_true (by first | (with_reducible assumption) | assumption)
                     have q26 : (x9_4 : Int) < ((x7_4.length : Int) : Int) := of_decide_eq_true (by first | (with_reducible assumption) | assumption)
                     obtain ⟨go26, co26, eo26, gb26, gl26, cl26, HG26⟩ := Kd.R_form HO_7.out (by omega)
                     (first | cases eo26 | (injection eo26 with ea_ en_ ec_; (first | subst ea_ | (injection ea_ with ea_; subst ea_)); subst ec_; clear en_))
                     have GB26 := Ax.mk gb26
                     have GG26 := Ax.mk HG26
                     clear gb26 gl26 HG26
                     (first | simp only [add_plain] at hx171_0 | skip)
                     obtain ⟨hx26_0, hf26_0⟩ := Kd.R_celln false HO_7.out (x9_4 : Int) p26 q26
                     replace p26 := eq_true p26
                     replace q26 := eq_true q26
                     have HP28 := Kd.R_putg HO_7.out (x9_4 : Int) true
                     go_wp2_with (first | ((with_reducible refine gate_store (t := 4) (p := 63) rfl ?_); (try (rw [drewN_self wr]; generalize hq_ : World.drewN wr _ = wr; (try (replace hx26_0 : World.cell? wr _ = _ := (congrArg (fun W_ => World.cell? W_ _) hq_).symm.trans hx26_0)); (try (replace hf26_0 : World.frozen? wr _ = _ := (congrArg (fun W_ => World.frozen? W_ _) hq_).symm.trans hf26_0)); have n0_ := Ax.mk (Kd.R_at hq_ HO_7.out); have n1_ := Ax.mk (below_at hq_ HB.out); clear hq_ HO_7 HB; have HO_7 := n0_; have HB := n1_; clear n0_ n1_; (try (have HP28 := Kd.R_putg HO_7.out (x9_4 : Int) true)))); refine store_event (t := 4) (p := 63) (v := ?vo_w29) (w1 := (wr.setCell ⟨go26, (x9_4 : Int).toNat, none⟩ (.bool true))) ?hg ?ho ?hn ?hr ?_; (case ho => rfl); (case hg => rfl); (case hn => rfl); (case hr => first | (go_simp; done) | (go_simp; rfl)); intro w29 hw; have hg : wr.grownBy w29 (some go26) := (by rw [hw]; exact HP28.2); have hp_ : Kd.R Kd.bool 4 w29 w.heap.size (fun _ => True) (.slice (some ⟨go26, 0, none⟩) x7_4.length co27) y172 := (by rw [hw, Ny172.out]; exact HP28.1); clear HP28; have n0_ := Ax.mk (hp_); have n1_ := Ax.mk ((by rw [hw]; exact below_set (HB.out) GB26.out : Below w.heap.size w w29)); clear HO_7; clear HB; have HO_7 := n0_; have HB := n1_; clear n0_ n1_; clear hg hw hp_))
                     repeat (go_quiet (first | ((with_reducible refine gate_store (t := 4) (p := 63) rfl ?_); (try (rw [drewN_self wr]; generalize hq_ : World.drewN wr _ = wr; (try (replace hx26_0 : World.cell? wr _ = _ := (congrArg (fun W_ => World.cell? W_ _) hq_).symm.trans hx26_0)); (try (replace hf26_0 : World.frozen? wr _ = _ := (congrArg (fun W_ => World.frozen? W_ _) hq_).symm.trans hf26_0)); have n0_ := Ax.mk (Kd.R_at hq_ HO_7.out); have n1_ := Ax.mk (below_at hq_ HB.out); clear hq_ HO_7 HB; have HO_7 := n0_; have HB := n1_; clear n0_ n1_; (try (have HP28 := Kd.R_putg HO_7.out (x9_4 : Int) true)))); refine store_event (t := 4) (p := 63) (v := ?vo_w29) (w1 := (wr.setCell ⟨go26, (x9_4 : Int).toNat, none⟩ (.bool true))) ?hg ?ho ?hn ?hr ?_; (case ho => rfl); (case hg => rfl); (case hn => rfl); (case hr => first | (go_simp; done) | (go_simp; rfl)); intro w29 hw; have hg : wr.grownBy w29 (some go26) := (by rw [hw]; exact HP28.2); have hp_ : Kd.R Kd.bool 4 w29 w.heap.size (fun _ => True) (.slice (some ⟨go26, 0, none⟩) x7_4.length co27) y172 := (by rw [hw, Ny172.out]; exact HP28.1); clear HP28; have n0_ := Ax.mk (hp_); have n1_ := Ax.mk ((by rw [hw]; exact below_set (HB.out) GB26.out : Below w.heap.size w w29)); clear HO_7; clear HB; have HO_7 := n0_; have HB := n1_; clear n0_ n1_; clear hg hw hp_)); try go_wp2_with (first | ((with_reducible refine gate_store (t := 4) (p := 63) rfl ?_); (try (rw [drewN_self wr]; generalize hq_ : World.drewN wr _ = wr; (try (replace hx26_0 : World.cell? wr _ = _ := (congrArg (fun W_ => World.cell? W_ _) hq_).symm.trans hx26_0)); (try (replace hf26_0 : World.frozen? wr _ = _ := (congrArg (fun W_ => World.frozen? W_ _) hq_).symm.trans hf26_0)); have n0_ := Ax.mk (Kd.R_at hq_ HO_7.out); have n1_ := Ax.mk (below_at hq_ HB.out); clear hq_ HO_7 HB; have HO_7 := n0_; have HB := n1_; clear n0_ n1_; (try (have HP28 := Kd.R_putg HO_7.out (x9_4 : Int) true)))); refine store_event (t := 4) (p := 63) (v := ?vo_w29) (w1 := (wr.setCell ⟨go26, (x9_4 : Int).toNat, none⟩ (.bool true))) ?hg ?ho ?hn ?hr ?_; (case ho => rfl); (case hg => rfl); (case hn => rfl); (case hr => first | (go_simp; done) | (go_simp; rfl)); intro w29 hw; have hg : wr.grownBy w29 (some go26) := (by rw [hw]; exact HP28.2); have hp_ : Kd.R Kd.bool 4 w29 w.heap.size (fun _ => True) (.slice (some ⟨go26, 0, none⟩) x7_4.length co27) y172 := (by rw [hw, Ny172.out]; exact HP28.1); clear HP28; have n0_ := Ax.mk (hp_); have n1_ := Ax.mk ((by rw [hw]; exact below_set (HB.out) GB26.out : Below w.heap.size w w29)); clear HO_7; clear HB; have HO_7 := n0_; have HB := n1_; clear n0_ n1_; clear hg hw hp_)))
                     go_roundg k4
                     case measure => have := HJ2.out; have := HK2.out; have := HK3.out; have := HK4.out; omega
                     case rel => exact ⟨(y172), (wrap64 (x9_4 + 1)), (by first | rfl | (simp; done) | (simp [*]; done)), H', ⟨by have := HJ2.out; have := HK2.out; have := HK3.out; have := HK4.out; omega⟩, ⟨by apply Kd.R_to; exact HO_7.out⟩, ⟨bA⟩⟩
                   ·rw [if_neg c22] at H
                    exact absurd H (by simp)
                  ·rw [if_neg c21] at H
                   exact absurd H (by simp)
                 ·rw [if_neg c20] at H
                  have c20b0 : decide (x9_4 < (wrap64 (((rd_T53 l0 x8_3).f0) + ((rd_T53 l0 x8_3).f1)))) = false := decide_eq_false c20
                  clear c20
                  have H' := Ax.mk H
                  clear H
                  have p169 : 0 ≤ (x8_3 : Int) := of_decide_eq_true (by first | (with_reducible assumption) | assumption)
                  have q169 : x8_3 < (l0.length : Int) := of_decide_eq_true (by first | (with_reducible assumption) | assumption)
                  obtain ⟨ad169, e169, hx169_0, hx169_1⟩ := at_T53 HR0.out x8_3 p169 q169
                  obtain rfl : ad168 = ad169 := (by injection e169)
                  replace hx169_0 := (HB.out.cell (World.block_lt_of_cell? w _ hx169_0)).trans hx169_0
                  replace hx169_1 := (HB.out.cell (World.block_lt_of_cell? w _ hx169_1)).trans hx169_1
                  replace p169 := eq_true p169
                  replace q169 := eq_true q169
                  have p170 : 0 ≤ (x8_3 : Int) := of_decide_eq_true (by first | (with_reducible assumption) | assumption)
                  have q170 : x8_3 < (l0.length : Int) := of_decide_eq_true (by first | (with_reducible assumption) | assumption)
                  obtain ⟨ad170, e170, hx170_0, hx170_1⟩ := at_T53 HR0.out x8_3 p170 q170
                  obtain rfl : ad168 = ad170 := (by injection e170)
                  replace hx170_0 := (HB.out.cell (World.block_lt_of_cell? w _ hx170_0)).trans hx170_0
                  replace hx170_1 := (HB.out.cell (World.block_lt_of_cell? w _ hx170_1)).trans hx170_1
                  replace p170 := eq_true p170
                  replace q170 := eq_true q170
                  go_wp2
                  repeat (go_quiet (fail); try go_wp2)
                  go_roundg k4
                  case measure => have := HJ2.out; have := HK2.out; have := HK3.out; have := HK4.out; omega
                  case rel => exact ⟨(x7_4), (wrap64 (x8_3 + 1)), (by first | rfl | (simp; done) | (simp [*]; done)), H', ⟨by have := HJ2.out; have := HK2.out; have := HK3.out; have := HK4.out; omega⟩, ⟨by apply Kd.R_to; exact HO_7.out⟩, ⟨bA⟩⟩
                ·rw [if_neg c19] at H
                 exact absurd H (by simp)
               ·rw [if_neg c18] at H
                exact absurd H (by simp)
            ·rw [if_neg c17] at H
             exact absurd H (by simp)
           ·rw [if_neg c16] at H
            have c16b0 : decide (x8_3 < (l0.length : Int)) = false := decide_eq_false c16
            clear c16
            simp only [Option.some.injEq, Prod.mk.injEq] at H
            obtain ⟨rfl, rfl⟩ := H
            go_wp2
            repeat (go_quiet (fail); try go_wp2)
            go_ret2
            exact ⟨_, by first | rfl | (simp [errW_none, errW_some] <;> rfl) | (simp [*, errW_none, errW_some] <;> rfl), by apply Kd.R_to; exact HO_7.out, bA⟩
        ·rw [if_neg c13] at H
         exact absurd H (by simp)
       ·rw [if_neg c12] at H
        exact absurd H (by simp)
def r5_row.l0 : Nat → List Bool → List (S53) → Int → Option ((List (S53)))
 | 0, _, _, _ => none
 | k + 1, x0, x3, x4 => if x4 < (x0.length : Int) then (if 0 ≤ x4 then (if rdOf false x0 x4 = true then (if x4 > 0 then (if 0 ≤ (wrap64 (x4 - 1)) then (if (wrap64 (x4 - 1)) < (x0.length : Int) then (if rdOf false x0 (wrap64 (x4 - 1)) = true then (if 0 ≤ (wrap64 ((x3.length : Int) - 1)) then (if (wrap64 ((x3.length : Int) - 1)) < (x3.length : Int) then (r5_row.l0 k x0 (x3.set ((wrap64 ((x3.length : Int) - 1)) : Int).toNat (⟨(rd_T53 x3 (wrap64 ((x3.length : Int) - 1))).f0, wrap64 (((rd_T53 x3 (wrap64 ((x3.length : Int) - 1))).f1) + 1)⟩ : S53)) (wrap64 (x4 + 1))) else (none)) else (none)) else (if x3.length < 8796093022208 then (r5_row.l0 k x0 (x3 ++ [(⟨x4, 1⟩ : S53)]) (wrap64 (x4 + 1))) else (none))) else (none)) else (none)) else (if x3.length < 8796093022208 then (r5_row.l0 k x0 (x3 ++ [(⟨x4, 1⟩ : S53)]) (wrap64 (x4 + 1))) else (none))) else (r5_row.l0 k x0 x3 (wrap64 (x4 + 1)))) else (none)) else (some x3)
def r5_row.f (k : Nat) (l0 : List Bool) : Option ((List (S53))) := r5_row.l0 k l0 ([] : List (S53)) 0
theorem r5_row.mono_l : ∀ k, (∀ y0 y1 y2, LeO (r5_row.l0 k y0 y1 y2) (r5_row.l0 (k + 1) y0 y1 y2))
 | 0 => fun _ _ _ r h => by simp [r5_row.l0] at h
 | k + 1 => by
  have ih0 := r5_row.mono_l k
  ·intro y0 y1 y2
   unfold r5_row.l0
   repeat' first
   | (with_reducible exact ih0 _ _ _)
   | (with_reducible exact LeO.refl _)
   | (with_reducible exact LeO.none _)
   | (with_reducible refine LeO.ite ?_ ?_)
   | (with_reducible refine LeO.bind ?_ (fun _ => ?_))
   | exact ih0 _ _ _
   | exact LeO.none _
   | refine LeO.ite ?_ ?_
   | refine LeO.bind ?_ (fun _ => ?_)
theorem r5_row.mono : ∀ a0 k, LeO (r5_row.f k a0) (r5_row.f (k + 1) a0) := by
 intro a0 k
 have ih0 := r5_row.mono_l k
 unfold r5_row.f
 repeat' first
   | (with_reducible exact ih0 _ _ _)
   | (with_reducible exact LeO.refl _)
   | (with_reducible exact LeO.none _)
   | (with_reducible refine LeO.ite ?_ ?_)
   | (with_reducible refine LeO.bind ?_ (fun _ => ?_))
   | exact ih0 _ _ _
   | exact LeO.none _
   | refine LeO.ite ?_ ?_
   | refine LeO.bind ?_ (fun _ => ?_)
set_option maxHeartbeats 8000000 in
set_option maxRecDepth 100000 in
theorem r5_row.calls (k : Nat) (A0 : Option Addr) (c0 : Nat) (l0 : List Bool) (r : List (S53)) (w : World) (hr0 : Kd.C Kd.bool w A0 l0.length l0) (hc0 : l0.length ≤ c0) (h : r5_row.f k l0 = some r) :
  Calls Tryd.prog 69 #[.slice A0 l0.length c0] w fun e w' => ∃ v0_ : Value, e = .returned (v0_) ∧ Kd.R k53 53 w' w.heap.size (fun _ => True) v0_ r ∧ Below w.heap.size w w' := by
 have hu53 := Tryd.underlying53
 have HR0 := Ax.mk hr0
 have HC0 := Ax.mk hc0
 clear hr0 hc0
 have HB := Ax.mk (Below.refl w.heap.size w)
 have H : (r5_row.l0 k l0 ([] : List (S53)) 0) = some r := h
 clear h
 have H' := Ax.mk H
 clear H
 go_enter Tryd.func69, Tryd.ntmps69
 go_wp2
 go_loopg [3, 4] k (fun kq v3 v4 w' => ∃ (x3_1 : List (S53)) (x4_1 : Int), v4 = .int .i64 x4_1 ∧ Ax (r5_row.l0 kq l0 x3_1 x4_1 = some r) ∧ Ax (kq ≤ k) ∧ Ax (Kd.R k53 53 w' w.heap.size (fun _ => True) v3 x3_1) ∧ Ax (Below w.heap.size w w'))
 case atStart => exact ⟨(([] : List (S53))), (0), (by first | rfl | (simp; done) | (simp [*]; done)), H', ⟨Nat.le_refl _⟩, ⟨by first | exact Kd.R_nil _ _ _ _ _ | exact Kd.N_nil _ _ _ _ _ | exact Kd.V_nil _ _ _ _ _ | exact Kd.Q_nil _ _ _ _ _ | exact Kd.S_nil _ _ _ _ _⟩, ⟨bA⟩⟩
 case round =>
  clear H'
  obtain ⟨x3_1, x4_1, rfl, HA, HK1, HO_3, HB⟩ := hrel
  cases gk with
  | zero => exact absurd HA.out (by simp [r5_row.l0])
  | succ k1 =>
   have H := HA.out
   clear HA
   simp only [r5_row.l0] at H
   by_cases c2 : x4_1 < (l0.length : Int)
   ·rw [if_pos c2] at H
    have c2b0 : decide (x4_1 < (l0.length : Int)) = true := decide_eq_true c2
    clear c2
    by_cases c3 : 0 ≤ x4_1
    ·rw [if_pos c3] at H
     have c3b0 : decide (0 ≤ x4_1) = true := decide_eq_true c3
     clear c3
     obtain ⟨bq4, hbq4⟩ : ∃ b_ : Bool, b_ = (rdOf false l0 x4_1) := ⟨_, rfl⟩
     replace H : (if bq4 = true then (if x4_1 > 0 then (if 0 ≤ (wrap64 (x4_1 - 1)) then (if (wrap64 (x4_1 - 1)) < (l0.length : Int) then (if rdOf false l0 (wrap64 (x4_1 - 1)) = true then (if 0 ≤ (wrap64 ((x3_1.length : Int) - 1)) then (if (wrap64 ((x3_1.length : Int) - 1)) < (x3_1.length : Int) then (r5_row.l0 k1 l0 (x3_1.set ((wrap64 ((x3_1.length : Int) - 1)) : Int).toNat (⟨(rd_T53 x3_1 (wrap64 ((x3_1.length : Int) - 1))).f0, wrap64 (((rd_T53 x3_1 (wrap64 ((x3_1.length : Int) - 1))).f1) + 1)⟩ : S53)) (wrap64 (x4_1 + 1))) else (none)) else (none)) else (if x3_1.length < 8796093022208 then (r5_row.l0 k1 l0 (x3_1 ++ [(⟨x4_1, 1⟩ : S53)]) (wrap64 (x4_1 + 1))) else (none))) else (none)) else (none)) else (if x3_1.length < 8796093022208 then (r5_row.l0 k1 l0 (x3_1 ++ [(⟨x4_1, 1⟩ : S53)]) (wrap64 (x4_1 + 1))) else (none))) else (r5_row.l0 k1 l0 x3_1 (wrap64 (x4_1 + 1)))) = some r := by rw [← hbq4] at H; exact H
     have Nbq4 := Ax.mk hbq4
     clear hbq4
     by_cases c5 : bq4 = true
     ·subst c5
      have H1 : (if x4_1 > 0 then (if 0 ≤ (wrap64 (x4_1 - 1)) then (if (wrap64 (x4_1 - 1)) < (l0.length : Int) then (if rdOf false l0 (wrap64 (x4_1 - 1)) = true then (if 0 ≤ (wrap64 ((x3_1.length : Int) - 1)) then (if (wrap64 ((x3_1.length : Int) - 1)) < (x3_1.length : Int) then (r5_row.l0 k1 l0 (x3_1.set ((wrap64 ((x3_1.length : Int) - 1)) : Int).toNat (⟨(rd_T53 x3_1 (wrap64 ((x3_1.length : Int) - 1))).f0, wrap64 (((rd_T53 x3_1 (wrap64 ((x3_1.length : Int) - 1))).f1) + 1)⟩ : S53)) (wrap64 (x4_1 + 1))) else (none)) else (none)) else (if x3_1.length < 8796093022208 then (r5_row.l0 k1 l0 (x3_1 ++ [(⟨x4_1, 1⟩ : S53)]) (wrap64 (x4_1 + 1))) else (none))) else (none)) else (none)) else (if x3_1.length < 8796093022208 then (r5_row.l0 k1 l0 (x3_1 ++ [(⟨x4_1, 1⟩ : S53)]) (wrap64 (x4_1 + 1))) else (none))) = some r := by rw [if_pos rfl] at H; exact H
      clear H
      have H := H1
      clear H1
      by_cases c6 : x4_1 > 0
      ·rw [if_pos c6] at H
       have c6b0 : decide (0 < x4_1) = true := decide_eq_true c6
       clear c6
       obtain ⟨ji7, hji7⟩ : ∃ j_ : Int, (wrap64 (x4_1 - 1)) = j_ := ⟨_, rfl⟩
       replace H : (if 0 ≤ (ji7) then (if (ji7) < (l0.length : Int) then (if rdOf false l0 (ji7) = true then (if 0 ≤ (wrap64 ((x3_1.length : Int) - 1)) then (if (wrap64 ((x3_1.length : Int) - 1)) < (x3_1.length : Int) then (r5_row.l0 k1 l0 (x3_1.set ((wrap64 ((x3_1.length : Int) - 1)) : Int).toNat (⟨(rd_T53 x3_1 (wrap64 ((x3_1.length : Int) - 1))).f0, wrap64 (((rd_T53 x3_1 (wrap64 ((x3_1.length : Int) - 1))).f1) + 1)⟩ : S53)) (wrap64 (x4_1 + 1))) else (none)) else (none)) else (if x3_1.length < 8796093022208 then (r5_row.l0 k1 l0 (x3_1 ++ [(⟨x4_1, 1⟩ : S53)]) (wrap64 (x4_1 + 1))) else (none))) else (none)) else (none)) = some r := by first | (rw [hji7] at H; exact H) | (simp only [hji7] at H ⊢; exact H)
       have hji7w : (IntKind.i64.wrap (x4_1 - 1)) = ji7 := (i64_w _).trans hji7
       by_cases c8 : 0 ≤ (ji7)
       ·rw [if_pos c8] at H
        have c8b0 : decide (0 ≤ (ji7)) = true := decide_eq_true c8
        clear c8
        by_cases c9 : (ji7) < (l0.length : Int)
        ·rw [if_pos c9] at H
         have c9b0 : decide ((ji7) < (l0.length : Int)) = true := decide_eq_true c9
         clear c9
         obtain ⟨bq10, hbq10⟩ : ∃ b_ : Bool, b_ = (rdOf false l0 (ji7)) := ⟨_, rfl⟩
         replace H : (if bq10 = true then (if 0 ≤ (wrap64 ((x3_1.length : Int) - 1)) then (if (wrap64 ((x3_1.length : Int) - 1)) < (x3_1.length : Int) then (r5_row.l0 k1 l0 (x3_1.set ((wrap64 ((x3_1.length : Int) - 1)) : Int).toNat (⟨(rd_T53 x3_1 (wrap64 ((x3_1.length : Int) - 1))).f0, wrap64 (((rd_T53 x3_1 (wrap64 ((x3_1.length : Int) - 1))).f1) + 1)⟩ : S53)) (wrap64 (x4_1 + 1))) else (none)) else (none)) else (if x3_1.length < 8796093022208 then (r5_row.l0 k1 l0 (x3_1 ++ [(⟨x4_1, 1⟩ : S53)]) (wrap64 (x4_1 + 1))) else (none))) = some r := by rw [← hbq10] at H; exact H
         have Nbq10 := Ax.mk hbq10
         clear hbq10
         by_cases c11 : bq10 = true
         ·subst c11
          have H1 : (if 0 ≤ (wrap64 ((x3_1.length : Int) - 1)) then (if (wrap64 ((x3_1.length : Int) - 1)) < (x3_1.length : Int) then (r5_row.l0 k1 l0 (x3_1.set ((wrap64 ((x3_1.length : Int) - 1)) : Int).toNat (⟨(rd_T53 x3_1 (wrap64 ((x3_1.length : Int) - 1))).f0, wrap64 (((rd_T53 x3_1 (wrap64 ((x3_1.length : Int) - 1))).f1) + 1)⟩ : S53)) (wrap64 (x4_1 + 1))) else (none)) else (none)) = some r := by rw [if_pos rfl] at H; exact H
          clear H
          have H := H1
          clear H1
          obtain ⟨ji12, hji12⟩ : ∃ j_ : Int, (wrap64 ((x3_1.length : Int) - 1)) = j_ := ⟨_, rfl⟩
          replace H : (if 0 ≤ (ji12) then (if (ji12) < (x3_1.length : Int) then (r5_row.l0 k1 l0 (x3_1.set ((ji12) : Int).toNat (⟨(rd_T53 x3_1 (ji12)).f0, wrap64 (((rd_T53 x3_1 (ji12)).f1) + 1)⟩ : S53)) (wrap64 (x4_1 + 1))) else (none)) else (none)) = some r := by first | (rw [hji12] at H; exact H) | (simp only [hji12] at H ⊢; exact H)
          have hji12w : (IntKind.i64.wrap ((x3_1.length : Int) - 1)) = ji12 := (i64_w _).trans hji12
          by_cases c13 : 0 ≤ (ji12)
          ·rw [if_pos c13] at H
           have c13b0 : decide (0 ≤ (ji12)) = true := decide_eq_true c13
           clear c13
           by_cases c14 : (ji12) < (x3_1.length : Int)
           ·rw [if_pos c14] at H
            have c14b0 : decide ((ji12) < (x3_1.length : Int)) = true := decide_eq_true c14
            clear c14
            obtain ⟨y176, hy176⟩ : ∃ y_ : List (S53), y_ = (x3_1.set ((ji12) : Int).toNat (⟨(rd_T53 x3_1 (ji12)).f0, wrap64 (((rd_T53 x3_1 (ji12)).f1) + 1)⟩ : S53)) := ⟨_, rfl⟩
            replace H : (r5_row.l0 k1 l0 y176 (wrap64 (x4_1 + 1))) = some r := by first | (rw [hy176]; with_reducible exact H) | (have H2_ := (Option.bind_some _ _).symm.trans H; rw [hy176]; with_reducible exact H2_) | (have H2_ := (Option.bind_some _ _).symm.trans H; with_reducible exact H2_) | with_reducible exact H | (rw [hy176]; exact H) | exact H
            have Ny176 := Ax.mk hy176
            clear hy176
            have H' := Ax.mk H
            clear H
            have p173 : 0 ≤ (x4_1 : Int) := of_decide_eq_true (by first | (with_reducible assumption) | assumption)
            have q173 : x4_1 < (l0.length : Int) := of_decide_eq_true (by first | (with_reducible assumption) | assumption)
            obtain ⟨ad173, e173, hx173_0⟩ := Kd.at_bool HR0.out x4_1 p173 q173
            (try rw [← Nbq4.out] at hx173_0)
            (try rw [← Nbq10.out] at hx173_0)
            cases e173
            replace hx173_0 := (HB.out.cell (World.block_lt_of_cell? w _ hx173_0)).trans hx173_0
            replace p173 := eq_true p173
            replace q173 := eq_true q173
            have p174 : 0 ≤ ((ji7) : Int) := of_decide_eq_true (by first | (with_reducible assumption) | assumption)
            have q174 : (ji7) < (l0.length : Int) := of_decide_eq_true (by first | (with_reducible assumption) | assumption)
            obtain ⟨ad174, e174, hx174_0⟩ := Kd.at_bool HR0.out (ji7) p174 q174
            (try rw [← Nbq4.out] at hx174_0)
            (try rw [← Nbq10.out] at hx174_0)
            obtain rfl : ad173 = ad174 := (by injection e174)
            replace hx174_0 := (HB.out.cell (World.block_lt_of_cell? w _ hx174_0)).trans hx174_0
            replace p174 := eq_true p174
            replace q174 := eq_true q174
            obtain ⟨Ao16, co16, eo16⟩ := Kd.R_slice HO_3.out
            subst eo16
            have p175 : 0 ≤ ((ji12) : Int) := of_decide_eq_true (by first | (with_reducible assumption) | assumption)
            have q175 : (ji12) < (x3_1.length : Int) := of_decide_eq_true (by first | (with_reducible assumption) | assumption)
            obtain ⟨ad175, e175, hx175_0, hx175_1⟩ := at_T53 (Kd.R_reads' HO_3.out).2.2 (ji12) p175 q175
            cases e175
            replace p175 := eq_true p175
            replace q175 := eq_true q175
            have p15 : 0 ≤ ((ji12) : Int) := of_decide_eq_true (by first | (with_reducible assumption) | assumption)
            have q15 : ((ji12) : Int) < ((x3_1.length : Int) : Int) := of_decide_eq_true (by first | (with_reducible assumption) | assumption)
            obtain ⟨go15, co15, eo15, gb15, gl15, cl15, HG15⟩ := Kd.R_form HO_3.out (by omega)
            (first | cases eo15 | (injection eo15 with ea_ en_ ec_; (first | subst ea_ | (injection ea_ with ea_; subst ea_)); subst ec_; clear en_))
            have GB15 := Ax.mk gb15
            have GG15 := Ax.mk HG15
            clear gb15 gl15 HG15
            (first | simp only [add_plain] at hx175_0 | skip)
            (first | simp only [add_plain] at hx175_1 | skip)
            obtain ⟨ce15, hcl15, hM15, hcc15, hfr15⟩ := Kd.R_elem HO_3.out z53 ((ji12) : Int) p15 q15
            obtain rfl := k53_openM hM15
            have hx15_0 : wr.cell? ⟨go15, ((ji12) : Int).toNat * 2, none⟩ = some (.int .i64 ((rd_T53 x3_1 (ji12)).f0)) := hcc15 0 _ rfl
            have hx15_1 : wr.cell? ⟨go15, ((ji12) : Int).toNat * 2 + 1, none⟩ = some (.int .i64 ((rd_T53 x3_1 (ji12)).f1)) := hcc15 1 _ rfl
            have hf15_0 : wr.frozen? ⟨go15, ((ji12) : Int).toNat * 2, none⟩ = false := hfr15 0
            have hf15_1 : wr.frozen? ⟨go15, ((ji12) : Int).toNat * 2 + 1, none⟩ = false := hfr15 1
            clear hcl15 hcc15 hfr15 hM15
            replace p15 := eq_true p15
            replace q15 := eq_true q15
            have HX17 := Ax.mk (show Kd.R k53 53 wr w.heap.size (fun _ => True) (.slice (some ⟨go15, 0, none⟩) x3_1.length co16) x3_1 from (by exact Kd.R_to HO_3.out))
            obtain ⟨ce17, hcl17, hM17, hcc17, hfr17⟩ := Kd.R_elem HX17.out z53 ((ji12) : Int) (of_decide_eq_true (by first | (with_reducible assumption) | assumption)) (by have h_ : ((ji12) : Int) < ((x3_1.length : Int) : Int) := of_decide_eq_true (by first | (with_reducible assumption) | assumption); first | exact h_ | (have e_ := (Kd.R_reads' HO_3.out).1; omega) | simpa using h_)
            obtain rfl := k53_openM hM17
            have HP17 := Kd.R_seg HX17.out ((ji12) : Int) (of_decide_eq_true (by first | (with_reducible assumption) | assumption)) (by have h_ : ((ji12) : Int) < ((x3_1.length : Int) : Int) := of_decide_eq_true (by first | (with_reducible assumption) | assumption); first | exact h_ | (have e_ := (Kd.R_reads' HO_3.out).1; omega) | simpa using h_) (seg := [.int .i64 (wrap64 (((rd_T53 x3_1 (ji12)).f1) + 1))]) (j := 1) hcl17 hcc17 (show 2 ≤ 2 from by decide) (x' := (⟨(rd_T53 x3_1 (ji12)).f0, wrap64 (((rd_T53 x3_1 (ji12)).f1) + 1)⟩ : S53)) (k53_mkM _ _ _ (⟨(rd_T53 x3_1 (ji12)).f0, wrap64 (((rd_T53 x3_1 (ji12)).f1) + 1)⟩ : S53) ) (fun _ hk => hk)
            have hx17_1 := hcc17 1 _ rfl
            (try simp only [show (k53).sz = 2 from rfl, Nat.mul_one, Nat.add_zero] at hx17_1)
            have hf17_1 := hfr17 1
            (try simp only [show (k53).sz = 2 from rfl, Nat.mul_one, Nat.add_zero] at hf17_1)
            clear hcl17 hcc17 hfr17 hM17
            go_wp2_with (first | ((with_reducible refine gate_store (t := 3) (p := 38) rfl ?_); refine store_event (t := 3) (p := 38) (v := ?vo_w18) (w1 := (wr.setCell ⟨go15, ((ji12) : Int).toNat * 2 + 1, none⟩ (.int .i64 (wrap64 (((rd_T53 x3_1 (ji12)).f1) + 1))))) ?hg ?ho ?hn ?hr ?_; (case ho => rfl); (case hg => rfl); (case hn => rfl); (case hr => first | (go_simp; done) | (go_simp; rfl)); intro w18 hw; have hg : wr.grownBy w18 (some go15) := (by rw [hw]; exact HP17.2); have hp_ : Kd.R k53 53 w18 w.heap.size (fun _ => True) (.slice (some ⟨go15, 0, none⟩) x3_1.length co16) y176 := (by rw [hw, Ny176.out]; exact HP17.1); clear HP17; have n0_ := Ax.mk (hp_); have n1_ := Ax.mk ((by rw [hw]; exact below_set (HB.out) GB15.out : Below w.heap.size w w18)); clear HO_3; clear HB; have HO_3 := n0_; have HB := n1_; clear n0_ n1_; clear hg hw hp_))
            go_roundg k1
            case measure => have := HK1.out; omega
            case rel => exact ⟨(y176), (wrap64 (x4_1 + 1)), (by first | rfl | (simp; done) | (simp [*]; done)), H', ⟨by have := HK1.out; omega⟩, ⟨by apply Kd.R_to; exact HO_3.out⟩, ⟨bA⟩⟩
           ·rw [if_neg c14] at H
            exact absurd H (by simp)
          ·rw [if_neg c13] at H
           exact absurd H (by simp)
         ·replace c11 := Bool.eq_false_iff.mpr c11
          subst c11
          have H1 : (if x3_1.length < 8796093022208 then (r5_row.l0 k1 l0 (x3_1 ++ [(⟨x4_1, 1⟩ : S53)]) (wrap64 (x4_1 + 1))) else (none)) = some r := by rw [if_neg (show ¬ (false = true) by decide)] at H; exact H
          clear H
          have H := H1
          clear H1
          by_cases c19 : x3_1.length < 8796093022208
          ·rw [if_pos c19] at H
           have LMc19 := Ax.mk c19
           clear c19
           obtain ⟨y177, hy177⟩ : ∃ y_ : List (S53), y_ = (x3_1 ++ [(⟨x4_1, 1⟩ : S53)]) := ⟨_, rfl⟩
           replace H : (r5_row.l0 k1 l0 y177 (wrap64 (x4_1 + 1))) = some r := by first | (rw [hy177]; with_reducible exact H) | (have H2_ := (Option.bind_some _ _).symm.trans H; rw [hy177]; with_reducible exact H2_) | (have H2_ := (Option.bind_some _ _).symm.trans H; with_reducible exact H2_) | with_reducible exact H | (rw [hy177]; exact H) | exact H
           have Ny177 := Ax.mk hy177
           clear hy177
           have H' := Ax.mk H
           clear H
           have p173 : 0 ≤ (x4_1 : Int) := of_decide_eq_true (by first | (with_reducible assumption) | assumption)
           have q173 : x4_1 < (l0.length : Int) := of_decide_eq_true (by first | (with_reducible assumption) | assumption)
           obtain ⟨ad173, e173, hx173_0⟩ := Kd.at_bool HR0.out x4_1 p173 q173
           (try rw [← Nbq4.out] at hx173_0)
           (try rw [← Nbq10.out] at hx173_0)
           cases e173
           replace hx173_0 := (HB.out.cell (World.block_lt_of_cell? w _ hx173_0)).trans hx173_0
           replace p173 := eq_true p173
           replace q173 := eq_true q173
           have p174 : 0 ≤ ((ji7) : Int) := of_decide_eq_true (by first | (with_reducible assumption) | assumption)
           have q174 : (ji7) < (l0.length : Int) := of_decide_eq_true (by first | (with_reducible assumption) | assumption)
           obtain ⟨ad174, e174, hx174_0⟩ := Kd.at_bool HR0.out (ji7) p174 q174
           (try rw [← Nbq4.out] at hx174_0)
           (try rw [← Nbq10.out] at hx174_0)
           obtain rfl : ad173 = ad174 := (by injection e174)
           replace hx174_0 := (HB.out.cell (World.block_lt_of_cell? w _ hx174_0)).trans hx174_0
           replace p174 := eq_true p174
           replace q174 := eq_true q174
           go_wp2_with (first | ((with_reducible refine gate_builtin (b := .append) (xs := #[.tmp 39, .tmp 42]) rfl ?_); at_builtin; refine Kd.R_append k53 (w0 := w) w.heap.size rfl (.tmp 39) (.tmp 42) 23 53 (.agg #[(.int .i64 0), (.int .i64 0)]) 16 rfl Tryd.underlying23 info53 rfl (by decide) (by omega) u3 x3_1 (⟨x4_1, 1⟩ : S53) [.int .i64 x4_1, .int .i64 1] (fun _ => True) (fun _ => False) rfl rfl ?aP (fun _ hk => hk.elim) ?aF ?aO ?aB ?aS ?aL ?_; (case aP => exact k53_mkM _ _ _ (⟨x4_1, 1⟩ : S53)); (case aB => exact bA); (case aF => exact (fun _ _ => trivial)); (case aO => exact (by exact Kd.R_to HO_3.out)); (case aS => exact (bS bA)); (case aL => have := LMc19.out; omega); intro v178 w20 ho hb hg hat; rw [← Ny177.out] at ho; have n0_ := Ax.mk (hb); have n1_ := Ax.mk (ho); clear HB; clear HO_3; have HB := n0_; have HO179 := n1_; clear n0_ n1_; clear ho hb hg hat))
           go_roundg k1
           case measure => have := HK1.out; omega
           case rel => exact ⟨(y177), (wrap64 (x4_1 + 1)), (by first | rfl | (simp; done) | (simp [*]; done)), H', ⟨by have := HK1.out; omega⟩, ⟨by apply Kd.R_to; exact HO179.out⟩, ⟨bA⟩⟩
          ·rw [if_neg c19] at H
           exact absurd H (by simp)
        ·rw [if_neg c9] at H
         exact absurd H (by simp)
       ·rw [if_neg c8] at H
        exact absurd H (by simp)
      ·rw [if_neg c6] at H
       have c6b0 : decide (0 < x4_1) = false := decide_eq_false c6
       clear c6
       by_cases c21 : x3_1.length < 8796093022208
       ·rw [if_pos c21] at H
        have LMc21 := Ax.mk c21
        clear c21
        obtain ⟨y180, hy180⟩ : ∃ y_ : List (S53), y_ = (x3_1 ++ [(⟨x4_1, 1⟩ : S53)]) := ⟨_, rfl⟩
        replace H : (r5_row.l0 k1 l0 y180 (wrap64 (x4_1 + 1))) = some r := by first | (rw [hy180]; with_reducible exact H) | (have H2_ := (Option.bind_some _ _).symm.trans H; rw [hy180]; with_reducible exact H2_) | (have H2_ := (Option.bind_some _ _).symm.trans H; with_reducible exact H2_) | with_reducible exact H | (rw [hy180]; exact H) | exact H
        have Ny180 := Ax.mk hy180
        clear hy180
        have H' := Ax.mk H
        clear H
        have p173 : 0 ≤ (x4_1 : Int) := of_decide_eq_true (by first | (with_reducible assumption) | assumption)
        have q173 : x4_1 < (l0.length : Int) := of_decide_eq_true (by first | (with_reducible assumption) | assumption)
        obtain ⟨ad173, e173, hx173_0⟩ := Kd.at_bool HR0.out x4_1 p173 q173
        (try rw [← Nbq4.out] at hx173_0)
        cases e173
        replace hx173_0 := (HB.out.cell (World.block_lt_of_cell? w _ hx173_0)).trans hx173_0
        replace p173 := eq_true p173
        replace q173 := eq_true q173
        go_wp2_with (first | ((with_reducible refine gate_builtin (b := .append) (xs := #[.tmp 39, .tmp 42]) rfl ?_); at_builtin; refine Kd.R_append k53 (w0 := w) w.heap.size rfl (.tmp 39) (.tmp 42) 23 53 (.agg #[(.int .i64 0), (.int .i64 0)]) 16 rfl Tryd.underlying23 info53 rfl (by decide) (by omega) u3 x3_1 (⟨x4_1, 1⟩ : S53) [.int .i64 x4_1, .int .i64 1] (fun _ => True) (fun _ => False) rfl rfl ?aP (fun _ hk => hk.elim) ?aF ?aO ?aB ?aS ?aL ?_; (case aP => exact k53_mkM _ _ _ (⟨x4_1, 1⟩ : S53)); (case aB => exact bA); (case aF => exact (fun _ _ => trivial)); (case aO => exact (by exact Kd.R_to HO_3.out)); (case aS => exact (bS bA)); (case aL => have := LMc21.out; omega); intro v181 w22 ho hb hg hat; rw [← Ny180.out] at ho; have n0_ := Ax.mk (hb); have n1_ := Ax.mk (ho); clear HB; clear HO_3; have HB := n0_; have HO182 := n1_; clear n0_ n1_; clear ho hb hg hat))
        go_roundg k1
        case measure => have := HK1.out; omega
        case rel => exact ⟨(y180), (wrap64 (x4_1 + 1)), (by first | rfl | (simp; done) | (simp [*]; done)), H', ⟨by have := HK1.out; omega⟩, ⟨by apply Kd.R_to; exact HO182.out⟩, ⟨bA⟩⟩
       ·rw [if_neg c21] at H
        exact absurd H (by simp)
     ·replace c5 := Bool.eq_false_iff.mpr c5
      subst c5
      have H1 : (r5_row.l0 k1 l0 x3_1 (wrap64 (x4_1 + 1))) = some r := by rw [if_neg (show ¬ (false = true) by decide)] at H; exact H
      clear H
      have H := H1
      clear H1
      have H' := Ax.mk H
      clear H
      have p173 : 0 ≤ (x4_1 : Int) := of_decide_eq_true (by first | (with_reducible assumption) | assumption)
      have q173 : x4_1 < (l0.length : Int) := of_decide_eq_true (by first | (with_reducible assumption) | assumption)
      obtain ⟨ad173, e173, hx173_0⟩ := Kd.at_bool HR0.out x4_1 p173 q173
      (try rw [← Nbq4.out] at hx173_0)
      cases e173
      replace hx173_0 := (HB.out.cell (World.block_lt_of_cell? w _ hx173_0)).trans hx173_0
      replace p173 := eq_true p173
      replace q173 := eq_true q173
      go_wp2
      go_roundg k1
      case measure => have := HK1.out; omega
      case rel => exact ⟨(x3_1), (wrap64 (x4_1 + 1)), (by first | rfl | (simp; done) | (simp [*]; done)), H', ⟨by have := HK1.out; omega⟩, ⟨by apply Kd.R_to; exact HO_3.out⟩, ⟨bA⟩⟩
    ·rw [if_neg c3] at H
     exact absurd H (by simp)
   ·rw [if_neg c2] at H
    have c2b0 : decide (x4_1 < (l0.length : Int)) = false := decide_eq_false c2
    clear c2
    obtain rfl := Option.some.inj H
    go_wp2
    go_ret
    exact ⟨_, by first | rfl | (simp [errW_none, errW_some] <;> rfl) | (simp [*, errW_none, errW_some] <;> rfl), by apply Kd.R_to; exact HO_3.out, bA⟩
def r5_Norm.f (k : Nat) (l0 : List (S53)) (a1 : Int) : Option ((List (S53)) × Int) := (r5_marks.f k l0 a1).bind fun bt183 => (if bt183.2 = 0 then ((r5_row.f k bt183.1).bind fun t187 => (some (t187, 0))) else (some (([] : List (S53)), bt183.2)))
theorem r5_Norm.mono : ∀ a0 a1 k, LeO (r5_Norm.f k a0 a1) (r5_Norm.f (k + 1) a0 a1) := by
 intro a0 a1 k
 unfold r5_Norm.f
 repeat' first
   | (with_reducible exact r5_marks.mono _ _ _)
   | (with_reducible exact r5_row.mono _ _)
   | (with_reducible exact LeO.refl _)
   | (with_reducible exact LeO.none _)
   | (with_reducible refine LeO.ite ?_ ?_)
   | (with_reducible refine LeO.bind ?_ (fun _ => ?_))
   | exact r5_marks.mono _ _ _
   | exact r5_row.mono _ _
   | exact LeO.none _
   | refine LeO.ite ?_ ?_
   | refine LeO.bind ?_ (fun _ => ?_)
set_option maxHeartbeats 8000000 in
set_option maxRecDepth 100000 in
theorem r5_Norm.calls (k : Nat) (A0 : Option Addr) (c0 : Nat) (l0 : List (S53)) (a1 : Int) (r1 : List (S53)) (r2 : Int) (w : World) (hr0 : Kd.C k53 w A0 l0.length l0) (hc0 : l0.length ≤ c0) (h : r5_Norm.f k l0 a1 = some (r1, r2)) :
  Calls Tryd.prog 53 #[.slice A0 l0.length c0, .int .i64 a1] w fun e w' => ∃ v0_ : Value, e = .returned (.tuple #[v0_, .int .i64 r2]) ∧ Kd.R k53 53 w' w.heap.size (fun _ => True) v0_ r1 ∧ Below w.heap.size w w' := by
 have HR0 := Ax.mk hr0
 have HC0 := Ax.mk hc0
 clear hr0 hc0
 have HB := Ax.mk (Below.refl w.heap.size w)
 have H : ((r5_marks.f k l0 a1).bind fun bt183 => (if bt183.2 = 0 then ((r5_row.f k bt183.1).bind fun t187 => (some (t187, 0))) else (some (([] : List (S53)), bt183.2)))) = some (r1, r2) := h
 clear h
 replace H := Option.bind_eq_some_iff.mp H
 obtain ⟨⟨t183, t184⟩, A30, H⟩ := H
 replace H : (if t184 = 0 then ((r5_row.f k t183).bind fun t187 => (some (t187, 0))) else (some (([] : List (S53)), t184))) = some (r1, r2) := H
 have A3 := Ax.mk A30
 clear A30
 by_cases c4 : t184 = 0
 ·rw [if_pos c4] at H
  have c4b0 : (t184 == 0) = true := beq_iff_eq.mpr c4
  have c4b1 : (t184 != 0) = false := bne_eq_false_iff_eq.mpr c4
  clear c4
  replace H := Option.bind_eq_some_iff.mp H
  obtain ⟨t187, A50, H⟩ := H
  replace H : (some (t187, 0)) = some (r1, r2) := H
  have A5 := Ax.mk A50
  clear A50
  simp only [Option.some.injEq, Prod.mk.injEq] at H
  obtain ⟨rfl, rfl⟩ := H
  go_enter Tryd.func53, Tryd.ntmps53
  go_wp2_with (first | ((with_reducible refine gate_callee (f := 68) rfl ?_); refine goesL_ (some 11) rfl rfl Tryd.func68 (by kernel_rfl) rfl #[.slice A0 l0.length c0, .int .i64 a1] rfl (by (try simp only [List.map_toArray, List.map_cons, List.map_nil]); first | done | rfl | (simp only [List.length_drop, List.length_take]; rfl) | (rw [wrap_sum2 (by assumption)]; rfl)) ?_; (with_reducible refine (r5_marks.calls k _ _ l0 a1 t183 t184 _ ?side1 ?side2 A3.out).mono ?_); (case side1 => repeat (first | exact HR0.out | (with_reducible refine Kd.C_alloc ?_ _) | (with_reducible refine Kd.C_drewN ?_ _) | (with_reducible refine Kd.C_drew ?_))); (case side2 => exact HC0.out); rintro e w6 ⟨v185, rfl, ho0, hb⟩; refine ⟨_, rfl, ?_⟩; have n0_ := Ax.mk (Kd.R_lower ho0 (bS bA)); have n1_ := Ax.mk (bP bA hb); clear HB; have HO186 := n0_; have HB := n1_; clear n0_ n1_; (try clear hb); (try clear hb2); (try clear hk); (try clear hi); (try clear ho0); obtain ⟨Ao7, co7, eo7⟩ := Kd.R_slice HO186.out; subst eo7) | ((with_reducible refine gate_callee (f := 69) rfl ?_); refine goesL_ (some 18) rfl rfl Tryd.func69 (by kernel_rfl) rfl #[.slice Ao7 t183.length co7] rfl (by (try simp only [List.map_toArray, List.map_cons, List.map_nil]); first | done | rfl | (simp only [List.length_drop, List.length_take]; rfl) | (rw [wrap_sum2 (by assumption)]; rfl)) ?_; (with_reducible refine (r5_row.calls k _ _ t183 t187 _ ?side1 ?side2 A5.out).mono ?_); (case side1 => repeat (first | exact (Kd.R_reads' HO186.out).2.2 | (with_reducible refine Kd.C_alloc ?_ _) | (with_reducible refine Kd.C_drewN ?_ _) | (with_reducible refine Kd.C_drew ?_))); (case side2 => exact (Kd.R_reads' HO186.out).2.1); rintro e w8 ⟨v188, rfl, ho0, hb⟩; refine ⟨_, rfl, ?_⟩; have n0_ := Ax.mk (Kd.R_below (by exact Kd.R_to HO186.out) hb); have n1_ := Ax.mk (Kd.R_lower ho0 (bS bA)); have n2_ := Ax.mk (bP bA hb); clear HO186; clear HB; have HO186 := n0_; have HO189 := n1_; have HB := n2_; clear n0_ n1_ n2_; (try clear hb); (try clear hb2); (try clear hk); (try clear hi); (try clear ho0)))
  go_ret2
  exact ⟨_, by first | rfl | (simp [errW_none, errW_some] <;> rfl) | (simp [*, errW_none, errW_some] <;> rfl), by apply Kd.R_to; exact HO189.out, bA⟩
 ·rw [if_neg c4] at H
  have c4b0 : (t184 == 0) = false := beq_eq_false_iff_ne.mpr c4
  have c4b1 : (t184 != 0) = true := bne_iff_ne.mpr c4
  simp only [Option.some.injEq, Prod.mk.injEq] at H
  obtain ⟨rfl, rfl⟩ := H
  go_enter Tryd.func53, Tryd.ntmps53
  go_wp2_with (first | ((with_reducible refine gate_callee (f := 68) rfl ?_); refine goesL_ (some 11) rfl rfl Tryd.func68 (by kernel_rfl) rfl #[.slice A0 l0.length c0, .int .i64 a1] rfl (by (try simp only [List.map_toArray, List.map_cons, List.map_nil]); first | done | rfl | (simp only [List.length_drop, List.length_take]; rfl) | (rw [wrap_sum2 (by assumption)]; rfl)) ?_; (with_reducible refine (r5_marks.calls k _ _ l0 a1 t183 t184 _ ?side1 ?side2 A3.out).mono ?_); (case side1 => repeat (first | exact HR0.out | (with_reducible refine Kd.C_alloc ?_ _) | (with_reducible refine Kd.C_drewN ?_ _) | (with_reducible refine Kd.C_drew ?_))); (case side2 => exact HC0.out); rintro e w9 ⟨v185, rfl, ho0, hb⟩; refine ⟨_, rfl, ?_⟩; have n0_ := Ax.mk (Kd.R_lower ho0 (bS bA)); have n1_ := Ax.mk (bP bA hb); clear HB; have HO186 := n0_; have HB := n1_; clear n0_ n1_; (try clear hb); (try clear hb2); (try clear hk); (try clear hi); (try clear ho0)))
  go_ret2
  exact ⟨_, by first | rfl | (simp [errW_none, errW_some] <;> rfl) | (simp [*, errW_none, errW_some] <;> rfl), by first | exact Kd.R_nil _ _ _ _ _ | exact Kd.N_nil _ _ _ _ _ | exact Kd.V_nil _ _ _ _ _ | exact Kd.Q_nil _ _ _ _ _ | exact Kd.S_nil _ _ _ _ _, bA⟩
end Go.Proofs.YtcgejogmiglalaaDoor.Fn
end
section
namespace Go.Proofs.YtcgejogmiglalaaDoor.Fn
open Go.RowKit Go.Proofs.YtcgejogmiglalaaDoorW.PrintWords Go.Proofs.YtcgejogmiglalaaDoorW.PrintLast Go.Proofs.YtcgejogmiglalaaDoorW.PrintMore Go.Proofs.YtcgejogmiglalaaDoor.Lf
open List (setIfInBounds_toArray set_cons_zero set_cons_succ)
attribute [local go_sem] max2_int min2_int max_two min_two max_three min_three max_four min_four   -- for this text's walks alone
set_option linter.unusedVariables false
set_option linter.unusedSimpArgs false
attribute [local go_sem high] eqA53
mutual
def r5_Right.j0 : Nat → List (S53) → List (S53) → Bool → Option (Bool)
 | 0, _, _, _ => none
 | k + 1, x0, x5, x22 => if x22 = true then (some false) else (r5_Right.l0 k x0 x5 0)
def r5_Right.l0 : Nat → List (S53) → List (S53) → Int → Option (Bool)
 | 0, _, _, _ => none
 | k + 1, x0, x5, x7 => if x7 < (x0.length : Int) then (if 0 ≤ x7 then (if x7 < (x5.length : Int) then (if (!(((rd_T53 x0 x7).f0) == ((rd_T53 x5 x7).f0)) || (!(((rd_T53 x0 x7).f1) == ((rd_T53 x5 x7).f1)))) = true then (some false) else (r5_Right.l0 k x0 x5 (wrap64 (x7 + 1)))) else (none)) else (none)) else (some true)
end
def r5_Right.f (k : Nat) (l0 : List (S53)) (a1 : Int) : Option (Bool) := (r5_Norm.f k l0 a1).bind fun bt190 => (if bt190.2 = 0 then (r5_Right.j0 k l0 bt190.1 ((bt190.1.length : Int) != (l0.length : Int))) else (r5_Right.j0 k l0 bt190.1 true))
theorem r5_Right.mono_l : ∀ k, (∀ y0 y1 y2, LeO (r5_Right.j0 k y0 y1 y2) (r5_Right.j0 (k + 1) y0 y1 y2)) ∧ (∀ y0 y1 y2, LeO (r5_Right.l0 k y0 y1 y2) (r5_Right.l0 (k + 1) y0 y1 y2))
 | 0 => ⟨fun _ _ _ r h => by simp [r5_Right.j0] at h, fun _ _ _ r h => by simp [r5_Right.l0] at h⟩
 | k + 1 => by
  obtain ⟨ih0, ih1⟩ := r5_Right.mono_l k
  refine ⟨?_, ?_⟩
  ·intro y0 y1 y2
   unfold r5_Right.j0
   repeat' first
   | (with_reducible exact ih0 _ _ _)
   | (with_reducible exact ih1 _ _ _)
   | (with_reducible exact r5_Norm.mono _ _ _)
   | (with_reducible exact LeO.refl _)
   | (with_reducible exact LeO.none _)
   | (with_reducible refine LeO.ite ?_ ?_)
   | (with_reducible refine LeO.bind ?_ (fun _ => ?_))
   | exact ih0 _ _ _
   | exact ih1 _ _ _
   | exact r5_Norm.mono _ _ _
   | exact LeO.none _
   | refine LeO.ite ?_ ?_
   | refine LeO.bind ?_ (fun _ => ?_)
  ·intro y0 y1 y2
   unfold r5_Right.l0
   repeat' first
   | (with_reducible exact ih0 _ _ _)
   | (with_reducible exact ih1 _ _ _)
   | (with_reducible exact r5_Norm.mono _ _ _)
   | (with_reducible exact LeO.refl _)
   | (with_reducible exact LeO.none _)
   | (with_reducible refine LeO.ite ?_ ?_)
   | (with_reducible refine LeO.bind ?_ (fun _ => ?_))
   | exact ih0 _ _ _
   | exact ih1 _ _ _
   | exact r5_Norm.mono _ _ _
   | exact LeO.none _
   | refine LeO.ite ?_ ?_
   | refine LeO.bind ?_ (fun _ => ?_)
theorem r5_Right.mono : ∀ a0 a1 k, LeO (r5_Right.f k a0 a1) (r5_Right.f (k + 1) a0 a1) := by
 intro a0 a1 k
 obtain ⟨ih0, ih1⟩ := r5_Right.mono_l k
 unfold r5_Right.f
 repeat' first
   | (with_reducible exact ih0 _ _ _)
   | (with_reducible exact ih1 _ _ _)
   | (with_reducible exact r5_Norm.mono _ _ _)
   | (with_reducible exact LeO.refl _)
   | (with_reducible exact LeO.none _)
   | (with_reducible refine LeO.ite ?_ ?_)
   | (with_reducible refine LeO.bind ?_ (fun _ => ?_))
   | exact ih0 _ _ _
   | exact ih1 _ _ _
   | exact r5_Norm.mono _ _ _
   | exact LeO.none _
   | refine LeO.ite ?_ ?_
   | refine LeO.bind ?_ (fun _ => ?_)
set_option maxHeartbeats 8000000 in
set_option maxRecDepth 100000 in
theorem r5_Right.calls (k : Nat) (A0 : Option Addr) (c0 : Nat) (l0 : List (S53)) (a1 : Int) (r : Bool) (w : World) (hr0 : Kd.C k53 w A0 l0.length l0) (hc0 : l0.length ≤ c0) (h : r5_Right.f k l0 a1 = some r) :
  Calls Tryd.prog 32 #[.slice A0 l0.length c0, .int .i64 a1] w fun e w' => e = .returned (.bool r) ∧ Below w.heap.size w w' := by
 have hu53 := Tryd.underlying53
 have HR0 := Ax.mk hr0
 have HC0 := Ax.mk hc0
 clear hr0 hc0
 have HB := Ax.mk (Below.refl w.heap.size w)
 have H : ((r5_Norm.f k l0 a1).bind fun bt190 => (if bt190.2 = 0 then (r5_Right.j0 k l0 bt190.1 ((bt190.1.length : Int) != (l0.length : Int))) else (r5_Right.j0 k l0 bt190.1 true))) = some r := h
 clear h
 replace H := Option.bind_eq_some_iff.mp H
 obtain ⟨⟨t190, t191⟩, A30, H⟩ := H
 replace H : (if t191 = 0 then (r5_Right.j0 k l0 t190 ((t190.length : Int) != (l0.length : Int))) else (r5_Right.j0 k l0 t190 true)) = some r := H
 have A3 := Ax.mk A30
 clear A30
 have HC4 := Ax.mk H
 clear H
 go_enter Tryd.func32, Tryd.ntmps32
 go_upto_region 2 with (first | (go_at_call 53; (with_reducible refine (r5_Norm.calls k _ _ l0 a1 t190 t191 _ ?side1 ?side2 A3.out).mono ?_); (case side1 => repeat (first | exact HR0.out | (with_reducible refine Kd.C_alloc ?_ _) | (with_reducible refine Kd.C_drewN ?_ _) | (with_reducible refine Kd.C_drew ?_))); (case side2 => exact HC0.out); rintro e w5 ⟨v192, rfl, ho0, hb⟩; have n0_ := Ax.mk (Kd.R_lower ho0 (bS bA)); have n1_ := Ax.mk (bP bA hb); clear HB; have HO193 := n0_; have HB := n1_; clear n0_ n1_; (try clear hb); (try clear hb2); (try clear hk); (try clear hi); (try clear ho0)))
 repeat (go_quiet (first | (go_at_call 53; (with_reducible refine (r5_Norm.calls k _ _ l0 a1 t190 t191 _ ?side1 ?side2 A3.out).mono ?_); (case side1 => repeat (first | exact HR0.out | (with_reducible refine Kd.C_alloc ?_ _) | (with_reducible refine Kd.C_drewN ?_ _) | (with_reducible refine Kd.C_drew ?_))); (case side2 => exact HC0.out); rintro e w5 ⟨v192, rfl, ho0, hb⟩; have n0_ := Ax.mk (Kd.R_lower ho0 (bS bA)); have n1_ := Ax.mk (bP bA hb); clear HB; have HO193 := n0_; have HB := n1_; clear n0_ n1_; (try clear hb); (try clear hb2); (try clear hk); (try clear hi); (try clear ho0))); go_upto_region 2 with (first | (go_at_call 53; (with_reducible refine (r5_Norm.calls k _ _ l0 a1 t190 t191 _ ?side1 ?side2 A3.out).mono ?_); (case side1 => repeat (first | exact HR0.out | (with_reducible refine Kd.C_alloc ?_ _) | (with_reducible refine Kd.C_drewN ?_ _) | (with_reducible refine Kd.C_drew ?_))); (case side2 => exact HC0.out); rintro e w5 ⟨v192, rfl, ho0, hb⟩; have n0_ := Ax.mk (Kd.R_lower ho0 (bS bA)); have n1_ := Ax.mk (bP bA hb); clear HB; have HO193 := n0_; have HB := n1_; clear n0_ n1_; (try clear hb); (try clear hb2); (try clear hk); (try clear hi); (try clear ho0))))
 (try simp only [Act.put, setIfInBounds_toArray, set_cons_zero, set_cons_succ])
 go_cut [22] (fun v22 wc => ∃ (kq : Nat) (x22_3 : Bool), v22 = .bool x22_3 ∧ Ax (r5_Right.j0 kq l0 t190 x22_3 = some r) ∧ Ax (kq ≤ k) ∧ Ax (Kd.R k53 53 wc w.heap.size (fun _ => True) v192 t190) ∧ Ax (Below w.heap.size w wc))
 case first =>
  have H := HC4.out
  clear HC4
  by_cases c6 : t191 = 0
  ·rw [if_pos c6] at H
   have c6b0 : (t191 == 0) = true := beq_iff_eq.mpr c6
   have c6b1 : (t191 != 0) = false := bne_eq_false_iff_eq.mpr c6
   clear c6
   (first | rw [c6b0] | (simp only [i64_w, i32_w]; rw [c6b0]) | skip)
   have H' := Ax.mk H
   clear H
   obtain ⟨Ao7, co7, eo7⟩ := Kd.R_slice HO193.out
   subst eo7
   go_wp2
   repeat (go_quiet (fail); try go_wp2)
   go_meet
   case rel => exact ⟨_, (((t190.length : Int) != (l0.length : Int))), (by first | rfl | (simp; done) | (simp [*]; done)), H', ⟨by first | omega | exact Nat.le_refl _⟩, ⟨by apply Kd.R_to; exact HO193.out⟩, ⟨bA⟩⟩
  ·rw [if_neg c6] at H
   have c6b0 : (t191 == 0) = false := beq_eq_false_iff_ne.mpr c6
   have c6b1 : (t191 != 0) = true := bne_iff_ne.mpr c6
   (first | rw [c6b0] | (simp only [i64_w, i32_w]; rw [c6b0]) | skip)
   have H' := Ax.mk H
   clear H
   go_wp2
   repeat (go_quiet (fail); try go_wp2)
   go_meet
   case rel => exact ⟨_, (true), (by first | rfl | (simp; done) | (simp [*]; done)), H', ⟨by first | omega | exact Nat.le_refl _⟩, ⟨by apply Kd.R_to; exact HO193.out⟩, ⟨bA⟩⟩
 case rest =>
  clear HC4
  try clear p2
  try clear c3
  try clear c6
  try clear c6b0
  try clear c6b1
  obtain ⟨kq, x22_3, rfl, HA, HJ3, HO_5, HB⟩ := hcut
  cases kq with
  | zero => exact absurd HA.out (by simp [r5_Right.j0])
  | succ kj3 =>
   have H := HA.out
   clear HA
   simp only [r5_Right.j0] at H
   by_cases c8 : x22_3 = true
   ·subst c8
    have H1 : (some false) = some r := by rw [if_pos rfl] at H; exact H
    clear H
    have H := H1
    clear H1
    obtain rfl := Option.some.inj H
    go_wp2
    repeat (go_quiet (fail); try go_wp2)
    go_ret
    exact ⟨by first | rfl | (simp [errW_none, errW_some] <;> rfl) | (simp [*, errW_none, errW_some] <;> rfl), bA⟩
   ·replace c8 := Bool.eq_false_iff.mpr c8
    subst c8
    have H1 : (r5_Right.l0 kj3 l0 t190 0) = some r := by rw [if_neg (show ¬ (false = true) by decide)] at H; exact H
    clear H
    have H := H1
    clear H1
    have H' := Ax.mk H
    clear H
    go_wp2
    repeat (go_quiet (fail); try go_wp2)
    go_loopg [7] kj3 (fun kq v7 w' => ∃ (x7_2 : Int), v7 = .int .i64 x7_2 ∧ Ax (r5_Right.l0 kq l0 t190 x7_2 = some r) ∧ Ax (kq ≤ kj3) ∧ Ax (Kd.R k53 53 w' w.heap.size (fun _ => True) v192 t190) ∧ Ax (Below w.heap.size w w'))
    case atStart => exact ⟨(0), (by first | rfl | (simp; done) | (simp [*]; done)), H', ⟨Nat.le_refl _⟩, ⟨by apply Kd.R_to; exact HO_5.out⟩, ⟨bA⟩⟩
    case round =>
     clear H'
     try clear p2
     try clear c3
     try clear c6
     try clear c6b0
     try clear c6b1
     try clear c8
     try clear p2
     obtain ⟨x7_2, rfl, HA, HK2, HO_5, HB⟩ := hrel
     cases gk with
     | zero => exact absurd HA.out (by simp [r5_Right.l0])
     | succ k2 =>
      have H := HA.out
      clear HA
      simp only [r5_Right.l0] at H
      by_cases c9 : x7_2 < (l0.length : Int)
      ·rw [if_pos c9] at H
       have c9b0 : decide (x7_2 < (l0.length : Int)) = true := decide_eq_true c9
       clear c9
       by_cases c10 : 0 ≤ x7_2
       ·rw [if_pos c10] at H
        have c10b0 : decide (0 ≤ x7_2) = true := decide_eq_true c10
        clear c10
        by_cases c11 : x7_2 < (t190.length : Int)
        ·rw [if_pos c11] at H
         have c11b0 : decide (x7_2 < (t190.length : Int)) = true := decide_eq_true c11
         clear c11
         by_cases c12 : (!(((rd_T53 l0 x7_2).f0) == ((rd_T53 t190 x7_2).f0)) || (!(((rd_T53 l0 x7_2).f1) == ((rd_T53 t190 x7_2).f1)))) = true
         ·rw [if_pos c12] at H
          have c12b0 : (!(((rd_T53 l0 x7_2).f0) == ((rd_T53 t190 x7_2).f0)) || (!(((rd_T53 l0 x7_2).f1) == ((rd_T53 t190 x7_2).f1)))) = true := c12
          clear c12
          obtain rfl := Option.some.inj H
          have p194 : 0 ≤ (x7_2 : Int) := of_decide_eq_true (by first | (with_reducible assumption) | assumption)
          have q194 : x7_2 < (l0.length : Int) := of_decide_eq_true (by first | (with_reducible assumption) | assumption)
          obtain ⟨ad194, e194, hx194_0, hx194_1⟩ := at_T53 HR0.out x7_2 p194 q194
          cases e194
          replace hx194_0 := (HB.out.cell (World.block_lt_of_cell? w _ hx194_0)).trans hx194_0
          replace hx194_1 := (HB.out.cell (World.block_lt_of_cell? w _ hx194_1)).trans hx194_1
          replace p194 := eq_true p194
          replace q194 := eq_true q194
          obtain ⟨Ao13, co13, eo13⟩ := Kd.R_slice HO_5.out
          subst eo13
          have p195 : 0 ≤ (x7_2 : Int) := of_decide_eq_true (by first | (with_reducible assumption) | assumption)
          have q195 : x7_2 < (t190.length : Int) := of_decide_eq_true (by first | (with_reducible assumption) | assumption)
          obtain ⟨ad195, e195, hx195_0, hx195_1⟩ := at_T53 (Kd.R_reads' HO_5.out).2.2 x7_2 p195 q195
          cases e195
          replace p195 := eq_true p195
          replace q195 := eq_true q195
          go_wp2
          repeat (go_quiet (fail); try go_wp2)
          go_ret
          exact ⟨by first | rfl | (simp [errW_none, errW_some] <;> rfl) | (simp [*, errW_none, errW_some] <;> rfl), bA⟩
         ·rw [if_neg c12] at H
          have c12b0 : (!(((rd_T53 l0 x7_2).f0) == ((rd_T53 t190 x7_2).f0)) || (!(((rd_T53 l0 x7_2).f1) == ((rd_T53 t190 x7_2).f1)))) = false := by simpa using c12
          clear c12
          have H' := Ax.mk H
          clear H
          have p194 : 0 ≤ (x7_2 : Int) := of_decide_eq_true (by first | (with_reducible assumption) | assumption)
          have q194 : x7_2 < (l0.length : Int) := of_decide_eq_true (by first | (with_reducible assumption) | assumption)
          obtain ⟨ad194, e194, hx194_0, hx194_1⟩ := at_T53 HR0.out x7_2 p194 q194
          cases e194
          replace hx194_0 := (HB.out.cell (World.block_lt_of_cell? w _ hx194_0)).trans hx194_0
          replace hx194_1 := (HB.out.cell (World.block_lt_of_cell? w _ hx194_1)).trans hx194_1
          replace p194 := eq_true p194
          replace q194 := eq_true q194
          obtain ⟨Ao14, co14, eo14⟩ := Kd.R_slice HO_5.out
          subst eo14
          have p195 : 0 ≤ (x7_2 : Int) := of_decide_eq_true (by first | (with_reducible assumption) | assumption)
          have q195 : x7_2 < (t190.length : Int) := of_decide_eq_true (by first | (with_reducible assumption) | assumption)
          obtain ⟨ad195, e195, hx195_0, hx195_1⟩ := at_T53 (Kd.R_reads' HO_5.out).2.2 x7_2 p195 q195
          cases e195
          replace p195 := eq_true p195
          replace q195 := eq_true q195
          go_wp2
          repeat (go_quiet (fail); try go_wp2)
          go_roundg k2
          case measure => have := HJ3.out; have := HK2.out; omega
          case rel => exact ⟨(wrap64 (x7_2 + 1)), (by first | rfl | (simp; done) | (simp [*]; done)), H', ⟨by have := HJ3.out; have := HK2.out; omega⟩, ⟨by apply Kd.R_to; exact HO_5.out⟩, ⟨bA⟩⟩
        ·rw [if_neg c11] at H
         exact absurd H (by simp)
       ·rw [if_neg c10] at H
        exact absurd H (by simp)
      ·rw [if_neg c9] at H
       have c9b0 : decide (x7_2 < (l0.length : Int)) = false := decide_eq_false c9
       clear c9
       obtain rfl := Option.some.inj H
       go_wp2
       repeat (go_quiet (fail); try go_wp2)
       go_ret
       exact ⟨by first | rfl | (simp [errW_none, errW_some] <;> rfl) | (simp [*, errW_none, errW_some] <;> rfl), bA⟩
end Go.Proofs.YtcgejogmiglalaaDoor.Fn
end
section
namespace Go.Proofs.YtcgejogmiglalaaDoor.Fn
open Go.RowKit Go.Proofs.YtcgejogmiglalaaDoorW.PrintWords Go.Proofs.YtcgejogmiglalaaDoorW.PrintLast Go.Proofs.YtcgejogmiglalaaDoorW.PrintMore Go.Proofs.YtcgejogmiglalaaDoor.Lf
attribute [local go_sem] max2_int min2_int max_two min_two max_three min_three max_four min_four   -- for this text's walks alone
set_option linter.unusedVariables false
set_option linter.unusedSimpArgs false
def r5_Has.l0 : Nat → List (S53) → Int → Int → Option (Bool)
 | 0, _, _, _ => none
 | k + 1, x0, x1, x5 => if x5 < (x0.length : Int) then (if 0 ≤ x5 then (if x1 ≥ ((rd_T53 x0 x5).f0) then (if (wrap64 (x1 - ((rd_T53 x0 x5).f0))) < ((rd_T53 x0 x5).f1) then (some true) else (r5_Has.l0 k x0 x1 (wrap64 (x5 + 1)))) else (r5_Has.l0 k x0 x1 (wrap64 (x5 + 1)))) else (none)) else (some false)
def r5_Has.f (k : Nat) (l0 : List (S53)) (a1 : Int) : Option (Bool) := r5_Has.l0 k l0 a1 0
theorem r5_Has.mono_l : ∀ k, (∀ y0 y1 y2, LeO (r5_Has.l0 k y0 y1 y2) (r5_Has.l0 (k + 1) y0 y1 y2))
 | 0 => fun _ _ _ r h => by simp [r5_Has.l0] at h
 | k + 1 => by
  have ih0 := r5_Has.mono_l k
  ·intro y0 y1 y2
   unfold r5_Has.l0
   repeat' first
   | (with_reducible exact ih0 _ _ _)
   | (with_reducible exact LeO.refl _)
   | (with_reducible exact LeO.none _)
   | (with_reducible refine LeO.ite ?_ ?_)
   | (with_reducible refine LeO.bind ?_ (fun _ => ?_))
   | exact ih0 _ _ _
   | exact LeO.none _
   | refine LeO.ite ?_ ?_
   | refine LeO.bind ?_ (fun _ => ?_)
theorem r5_Has.mono : ∀ a0 a1 k, LeO (r5_Has.f k a0 a1) (r5_Has.f (k + 1) a0 a1) := by
 intro a0 a1 k
 have ih0 := r5_Has.mono_l k
 unfold r5_Has.f
 repeat' first
   | (with_reducible exact ih0 _ _ _)
   | (with_reducible exact LeO.refl _)
   | (with_reducible exact LeO.none _)
   | (with_reducible refine LeO.ite ?_ ?_)
   | (with_reducible refine LeO.bind ?_ (fun _ => ?_))
   | exact ih0 _ _ _
   | exact LeO.none _
   | refine LeO.ite ?_ ?_
   | refine LeO.bind ?_ (fun _ => ?_)
set_option maxHeartbeats 8000000 in
set_option maxRecDepth 100000 in
theorem r5_Has.calls (k : Nat) (A0 : Option Addr) (c0 : Nat) (l0 : List (S53)) (a1 : Int) (r : Bool) (w : World) (hr0 : Kd.C k53 w A0 l0.length l0) (hc0 : l0.length ≤ c0) (h : r5_Has.f k l0 a1 = some r) :
  Calls Tryd.prog 33 #[.slice A0 l0.length c0, .int .i64 a1] w fun e w' => e = .returned (.bool r) ∧ Drawn0 w w' := by
 have HR0 := Ax.mk hr0
 have HC0 := Ax.mk hc0
 clear hr0 hc0
 have H : (r5_Has.l0 k l0 a1 0) = some r := h
 clear h
 have H' := Ax.mk H
 clear H
 go_enter Tryd.func33, Tryd.ntmps33
 go_wp2
 repeat (go_quiet (fail); try go_wp2)
 go_loopg [5] k (fun kq v5 w' => ∃ (x5_1 : Int), v5 = .int .i64 x5_1 ∧ Ax (r5_Has.l0 kq l0 a1 x5_1 = some r) ∧ Ax (kq ≤ k) ∧ Drawn0 w w')
 case atStart => exact ⟨(0), (by first | rfl | (simp; done) | (simp [*]; done)), H', ⟨Nat.le_refl _⟩, by repeat (first | exact Drawn0.refl _ | apply Drawn0.step)⟩
 case round =>
  clear H'
  try clear p2
  obtain ⟨x5_1, rfl, HA, HK1, ⟨m1, rfl⟩⟩ := hrel
  cases gk with
  | zero => exact absurd HA.out (by simp [r5_Has.l0])
  | succ k1 =>
   have H := HA.out
   clear HA
   simp only [r5_Has.l0] at H
   by_cases c3 : x5_1 < (l0.length : Int)
   ·rw [if_pos c3] at H
    have c3b0 : decide (x5_1 < (l0.length : Int)) = true := decide_eq_true c3
    clear c3
    by_cases c4 : 0 ≤ x5_1
    ·rw [if_pos c4] at H
     have c4b0 : decide (0 ≤ x5_1) = true := decide_eq_true c4
     clear c4
     by_cases c5 : a1 ≥ ((rd_T53 l0 x5_1).f0)
     ·rw [if_pos c5] at H
      have c5b0 : decide (((rd_T53 l0 x5_1).f0) ≤ a1) = true := decide_eq_true c5
      clear c5
      by_cases c6 : (wrap64 (a1 - ((rd_T53 l0 x5_1).f0))) < ((rd_T53 l0 x5_1).f1)
      ·rw [if_pos c6] at H
       have c6b0 : decide ((wrap64 (a1 - ((rd_T53 l0 x5_1).f0))) < ((rd_T53 l0 x5_1).f1)) = true := decide_eq_true c6
       clear c6
       obtain rfl := Option.some.inj H
       have p196 : 0 ≤ (x5_1 : Int) := of_decide_eq_true (by first | (with_reducible assumption) | assumption)
       have q196 : x5_1 < (l0.length : Int) := of_decide_eq_true (by first | (with_reducible assumption) | assumption)
       obtain ⟨ad196, e196, hx196_0, hx196_1⟩ := at_T53 HR0.out x5_1 p196 q196
       cases e196
       replace p196 := eq_true p196
       replace q196 := eq_true q196
       have p197 : 0 ≤ (x5_1 : Int) := of_decide_eq_true (by first | (with_reducible assumption) | assumption)
       have q197 : x5_1 < (l0.length : Int) := of_decide_eq_true (by first | (with_reducible assumption) | assumption)
       obtain ⟨ad197, e197, hx197_0, hx197_1⟩ := at_T53 HR0.out x5_1 p197 q197
       obtain rfl : ad196 = ad197 := (by injection e197)
       replace p197 := eq_true p197
       replace q197 := eq_true q197
       have p198 : 0 ≤ (x5_1 : Int) := of_decide_eq_true (by first | (with_reducible assumption) | assumption)
       have q198 : x5_1 < (l0.length : Int) := of_decide_eq_true (by first | (with_reducible assumption) | assumption)
       obtain ⟨ad198, e198, hx198_0, hx198_1⟩ := at_T53 HR0.out x5_1 p198 q198
       obtain rfl : ad196 = ad198 := (by injection e198)
       replace p198 := eq_true p198
       replace q198 := eq_true q198
       go_wp2
       repeat (go_quiet (fail); try go_wp2)
       go_ret
       exact ⟨by first | rfl | (simp; done) | (simp [*]; done), by repeat (first | exact Drawn0.refl _ | apply Drawn0.step)⟩
      ·rw [if_neg c6] at H
       have c6b0 : decide ((wrap64 (a1 - ((rd_T53 l0 x5_1).f0))) < ((rd_T53 l0 x5_1).f1)) = false := decide_eq_false c6
       clear c6
       have H' := Ax.mk H
       clear H
       have p196 : 0 ≤ (x5_1 : Int) := of_decide_eq_true (by first | (with_reducible assumption) | assumption)
       have q196 : x5_1 < (l0.length : Int) := of_decide_eq_true (by first | (with_reducible assumption) | assumption)
       obtain ⟨ad196, e196, hx196_0, hx196_1⟩ := at_T53 HR0.out x5_1 p196 q196
       cases e196
       replace p196 := eq_true p196
       replace q196 := eq_true q196
       have p197 : 0 ≤ (x5_1 : Int) := of_decide_eq_true (by first | (with_reducible assumption) | assumption)
       have q197 : x5_1 < (l0.length : Int) := of_decide_eq_true (by first | (with_reducible assumption) | assumption)
       obtain ⟨ad197, e197, hx197_0, hx197_1⟩ := at_T53 HR0.out x5_1 p197 q197
       obtain rfl : ad196 = ad197 := (by injection e197)
       replace p197 := eq_true p197
       replace q197 := eq_true q197
       have p198 : 0 ≤ (x5_1 : Int) := of_decide_eq_true (by first | (with_reducible assumption) | assumption)
       have q198 : x5_1 < (l0.length : Int) := of_decide_eq_true (by first | (with_reducible assumption) | assumption)
       obtain ⟨ad198, e198, hx198_0, hx198_1⟩ := at_T53 HR0.out x5_1 p198 q198
       obtain rfl : ad196 = ad198 := (by injection e198)
       replace p198 := eq_true p198
       replace q198 := eq_true q198
       go_wp2
       repeat (go_quiet (fail); try go_wp2)
       go_roundg k1
       case measure => have := HK1.out; omega
       case rel => exact ⟨(wrap64 (x5_1 + 1)), (by first | rfl | (simp; done) | (simp [*]; done)), H', ⟨by have := HK1.out; omega⟩, by repeat (first | exact Drawn0.refl _ | apply Drawn0.step)⟩
     ·rw [if_neg c5] at H
      have c5b0 : decide (((rd_T53 l0 x5_1).f0) ≤ a1) = false := decide_eq_false c5
      clear c5
      have H' := Ax.mk H
      clear H
      have p196 : 0 ≤ (x5_1 : Int) := of_decide_eq_true (by first | (with_reducible assumption) | assumption)
      have q196 : x5_1 < (l0.length : Int) := of_decide_eq_true (by first | (with_reducible assumption) | assumption)
      obtain ⟨ad196, e196, hx196_0, hx196_1⟩ := at_T53 HR0.out x5_1 p196 q196
      cases e196
      replace p196 := eq_true p196
      replace q196 := eq_true q196
      go_wp2
      repeat (go_quiet (fail); try go_wp2)
      go_roundg k1
      case measure => have := HK1.out; omega
      case rel => exact ⟨(wrap64 (x5_1 + 1)), (by first | rfl | (simp; done) | (simp [*]; done)), H', ⟨by have := HK1.out; omega⟩, by repeat (first | exact Drawn0.refl _ | apply Drawn0.step)⟩
    ·rw [if_neg c4] at H
     exact absurd H (by simp)
   ·rw [if_neg c3] at H
    have c3b0 : decide (x5_1 < (l0.length : Int)) = false := decide_eq_false c3
    clear c3
    obtain rfl := Option.some.inj H
    go_wp2
    repeat (go_quiet (fail); try go_wp2)
    go_ret
    exact ⟨by first | rfl | (simp; done) | (simp [*]; done), by repeat (first | exact Drawn0.refl _ | apply Drawn0.step)⟩
def r5_Total.l0 : Nat → List (S53) → Int → Int → Option (Int)
 | 0, _, _, _ => none
 | k + 1, x0, x3, x4 => if x4 < (x0.length : Int) then (if 0 ≤ x4 then (r5_Total.l0 k x0 (wrap64 (x3 + (mx ((rd_T53 x0 x4).f1) 0))) (wrap64 (x4 + 1))) else (none)) else (some x3)
def r5_Total.f (k : Nat) (l0 : List (S53)) : Option (Int) := r5_Total.l0 k l0 0 0
theorem r5_Total.mono_l : ∀ k, (∀ y0 y1 y2, LeO (r5_Total.l0 k y0 y1 y2) (r5_Total.l0 (k + 1) y0 y1 y2))
 | 0 => fun _ _ _ r h => by simp [r5_Total.l0] at h
 | k + 1 => by
  have ih0 := r5_Total.mono_l k
  ·intro y0 y1 y2
   unfold r5_Total.l0
   repeat' first
   | (with_reducible exact ih0 _ _ _)
   | (with_reducible exact LeO.refl _)
   | (with_reducible exact LeO.none _)
   | (with_reducible refine LeO.ite ?_ ?_)
   | (with_reducible refine LeO.bind ?_ (fun _ => ?_))
   | exact ih0 _ _ _
   | exact LeO.none _
   | refine LeO.ite ?_ ?_
   | refine LeO.bind ?_ (fun _ => ?_)
theorem r5_Total.mono : ∀ a0 k, LeO (r5_Total.f k a0) (r5_Total.f (k + 1) a0) := by
 intro a0 k
 have ih0 := r5_Total.mono_l k
 unfold r5_Total.f
 repeat' first
   | (with_reducible exact ih0 _ _ _)
   | (with_reducible exact LeO.refl _)
   | (with_reducible exact LeO.none _)
   | (with_reducible refine LeO.ite ?_ ?_)
   | (with_reducible refine LeO.bind ?_ (fun _ => ?_))
   | exact ih0 _ _ _
   | exact LeO.none _
   | refine LeO.ite ?_ ?_
   | refine LeO.bind ?_ (fun _ => ?_)
set_option maxHeartbeats 8000000 in
set_option maxRecDepth 100000 in
theorem r5_Total.calls (k : Nat) (A0 : Option Addr) (c0 : Nat) (l0 : List (S53)) (r : Int) (w : World) (hr0 : Kd.C k53 w A0 l0.length l0) (hc0 : l0.length ≤ c0) (h : r5_Total.f k l0 = some r) :
  Calls Tryd.prog 34 #[.slice A0 l0.length c0] w fun e w' => e = .returned (.int .i64 r) ∧ Below w.heap.size w w' := by
 have HR0 := Ax.mk hr0
 have HC0 := Ax.mk hc0
 clear hr0 hc0
 have HB := Ax.mk (Below.refl w.heap.size w)
 have H : (r5_Total.l0 k l0 0 0) = some r := h
 clear h
 have H' := Ax.mk H
 clear H
 go_enter Tryd.func34, Tryd.ntmps34
 go_wp2
 go_loopg [3, 4] k (fun kq v3 v4 w' => ∃ (x3_1 : Int) (x4_1 : Int), v3 = .int .i64 x3_1 ∧ v4 = .int .i64 x4_1 ∧ Ax (r5_Total.l0 kq l0 x3_1 x4_1 = some r) ∧ Ax (kq ≤ k) ∧ Ax (Below w.heap.size w w'))
 case atStart => exact ⟨(0), (0), (by first | rfl | (simp; done) | (simp [*]; done)), (by first | rfl | (simp; done) | (simp [*]; done)), H', ⟨Nat.le_refl _⟩, ⟨bA⟩⟩
 case round =>
  clear H'
  obtain ⟨x3_1, x4_1, rfl, rfl, HA, HK1, HB⟩ := hrel
  cases gk with
  | zero => exact absurd HA.out (by simp [r5_Total.l0])
  | succ k1 =>
   have H := HA.out
   clear HA
   simp only [r5_Total.l0] at H
   by_cases c2 : x4_1 < (l0.length : Int)
   ·rw [if_pos c2] at H
    have c2b0 : decide (x4_1 < (l0.length : Int)) = true := decide_eq_true c2
    clear c2
    by_cases c3 : 0 ≤ x4_1
    ·rw [if_pos c3] at H
     have c3b0 : decide (0 ≤ x4_1) = true := decide_eq_true c3
     clear c3
     obtain ⟨ji4, hji4⟩ : ∃ j_ : Int, (mx ((rd_T53 l0 x4_1).f1) 0) = j_ := ⟨_, rfl⟩
     replace H : (r5_Total.l0 k1 l0 (wrap64 (x3_1 + (ji4))) (wrap64 (x4_1 + 1))) = some r := by first | (rw [hji4] at H; exact H) | (simp only [hji4] at H ⊢; exact H)
     have hji4_ : (if ((rd_T53 l0 x4_1).f1) < 0 then 0 else ((rd_T53 l0 x4_1).f1)) = ji4 := hji4
     have H' := Ax.mk H
     clear H
     have p199 : 0 ≤ (x4_1 : Int) := of_decide_eq_true (by first | (with_reducible assumption) | assumption)
     have q199 : x4_1 < (l0.length : Int) := of_decide_eq_true (by first | (with_reducible assumption) | assumption)
     obtain ⟨ad199, e199, hx199_0, hx199_1⟩ := at_T53 HR0.out x4_1 p199 q199
     cases e199
     replace hx199_0 := (HB.out.cell (World.block_lt_of_cell? w _ hx199_0)).trans hx199_0
     replace hx199_1 := (HB.out.cell (World.block_lt_of_cell? w _ hx199_1)).trans hx199_1
     replace p199 := eq_true p199
     replace q199 := eq_true q199
     go_wp2
     go_roundg k1
     case measure => have := HK1.out; omega
     case rel => exact ⟨(wrap64 (x3_1 + (ji4))), (wrap64 (x4_1 + 1)), (by first | rfl | (simp; done) | (simp only [← hji4] <;> (first | rfl | simp)) | (simp [*]; done)), (by first | rfl | (simp; done) | (simp [*]; done)), H', ⟨by have := HK1.out; omega⟩, ⟨bA⟩⟩
    ·rw [if_neg c3] at H
     exact absurd H (by simp)
   ·rw [if_neg c2] at H
    have c2b0 : decide (x4_1 < (l0.length : Int)) = false := decide_eq_false c2
    clear c2
    obtain rfl := Option.some.inj H
    go_wp2
    go_ret
    exact ⟨by first | rfl | (simp [errW_none, errW_some] <;> rfl) | (simp [*, errW_none, errW_some] <;> rfl), bA⟩
def idxOf {α : Type} (p : α → Bool) (l : List α) : Int := if l.any p = true then ((l.takeWhile (fun x => !p x)).length : Int) else -1
theorem idx_hit {α : Type} (p : α → Bool) : ∀ (l : List α) (j : Nat) (x : α), (l.take j).any p = false → l[j]? = some x → p x = true → idxOf p l = (j : Int)
 | [], _, _, _, h, _ => by simp at h
 | y :: l, 0, x, _, h, hp => by
  simp at h; subst h
  unfold idxOf
  simp [hp]
 | y :: l, j + 1, x, ht, h, hp => by
  rw [List.take_succ_cons, List.any_cons, Bool.or_eq_false_iff] at ht
  have ih := idx_hit p l j x ht.2 (by simpa using h) hp
  have hany : l.any p = true := List.any_eq_true.2 ⟨x, List.mem_of_getElem? (by simpa using h), hp⟩
  unfold idxOf at ih ⊢
  rw [if_pos hany] at ih
  rw [List.any_cons, hany, Bool.or_true, if_pos rfl, List.takeWhile_cons, if_pos (by simp [ht.1]), List.length_cons]
  omega
theorem idx_miss {α : Type} (p : α → Bool) (l : List α) (h : l.any p = false) : idxOf p l = -1 := by unfold idxOf; rw [h]; rfl
theorem idx_nonneg {α : Type} (p : α → Bool) (l : List α) : decide (0 ≤ idxOf p l) = l.any p := by
 unfold idxOf
 cases l.any p
 ·rfl
 ·rw [if_pos rfl]; exact decide_eq_true (by omega)
theorem any_take_succ {α : Type} (p : α → Bool) (l : List α) (j : Nat) (x : α) (h : l[j]? = some x) (h0 : (l.take j).any p = false) (h1 : p x = false) : (l.take (j + 1)).any p = false := by
 rw [List.take_add_one, h, List.any_append, h0]
 simp [h1]
def isLow (x : S53) : Bool := decide (x.f0 < 2)
set_option maxHeartbeats 4000000 in
set_option maxRecDepth 100000 in
theorem head_low.pred (x : S53) (w : World) : Calls Tryd.prog 28 #[.agg #[.int .i64 x.f0, .int .i64 x.f1]] w fun e w' => e = .returned (.bool (isLow x)) ∧ Below w.heap.size w w' := by
 show Calls Tryd.prog 28 _ w fun e w' => e = .returned (.bool (decide (x.f0 < 2))) ∧ Below w.heap.size w w'
 go_enter Tryd.func28, Tryd.ntmps28
 go_wp2
 go_ret
 exact ⟨rfl, below_alloc (Below.refl _ _) _⟩
set_option maxHeartbeats 4000000 in
set_option maxRecDepth 100000 in
theorem head_low.idx (A0 : Option Addr) (c0 : Nat) (l0 : List S53) (w : World) (hr0 : Kd.C k53 w A0 l0.length l0) (hn : l0.length ≤ 1000000000000) :
  Calls Tryd.prog 52 #[.slice A0 l0.length c0, .func (.func 28) #[] #[]] w fun e w' => e = .returned (.int .i64 (idxOf isLow l0)) ∧ Below w.heap.size w w' := by
 have HR := Ax.mk hr0
 clear hr0
 go_enter Tryd.func52, Tryd.ntmps52
 go_wp2
 go_loopw [5, 8] (fun _ v8 wr => ∃ j : Nat, v8 = .int .i64 (j : Int) ∧ j ≤ l0.length ∧ Ax ((l0.take j).any isLow = false) ∧ Ax (Below w.heap.size w wr)) (fun _ v8 _ => l0.length - (intOf v8).toNat)
 case atStart => exact ⟨0, rfl, Nat.zero_le _, ⟨by simp⟩, ⟨Below.refl _ _⟩⟩
 case round =>
  obtain ⟨j, rfl, hj, HA, HB⟩ := hrel
  by_cases hlt : j < l0.length
  ·obtain ⟨ad, rfl, hx0, hx1⟩ := at_T53 HR.out (j : Int) (by omega) (by omega)
   have HX := Ax.mk (show l0[j]? = some (rd_T53 l0 (j : Int)) by unfold rd_T53; simp [List.getD, hlt])
   simp only [Int.toNat_natCast] at hx0 hx1
   replace hx0 := (HB.out.cell (World.block_lt_of_cell? w _ hx0)).trans hx0
   replace hx1 := (HB.out.cell (World.block_lt_of_cell? w _ hx1)).trans hx1
   generalize rd_T53 l0 (j : Int) = x at HX hx0 hx1
   have hp := head_low.pred x
   cases hq : isLow x with
   | true =>
    rw [hq] at hp
    have HQ := Ax.mk hq
    clear hq
    go_wp2_with (first | (go_at_call 28; fail))
    refine (hp _).mono ?_
    rintro e w1 ⟨rfl, hb1⟩
    go_wp2
    go_ret
    exact ⟨congrArg (fun z => Ending.returned (.int .i64 z)) (idx_hit isLow l0 j x HA.out HX.out HQ.out).symm, bP HB.out hb1⟩
   | false =>
    rw [hq] at hp
    have HQ := Ax.mk hq
    clear hq
    go_wp2_with (first | (go_at_call 28; fail))
    refine (hp _).mono ?_
    rintro e w1 ⟨rfl, hb1⟩
    have HB1 := Ax.mk (bP HB.out hb1)
    clear hb1
    go_wp2
    go_roundw
    case rel => exact ⟨j + 1, by go_num, by omega, ⟨any_take_succ isLow l0 j x HX.out HA.out HQ.out⟩, HB1⟩
    case measure => simp [intOf]; omega
  ·obtain rfl : j = l0.length := by omega
   go_wp2
   go_ret
   exact ⟨congrArg (fun z => Ending.returned (.int .i64 z)) (idx_miss isLow l0 (by have h := HA.out; rwa [List.take_length] at h)).symm, HB.out⟩
set_option maxHeartbeats 4000000 in
set_option maxRecDepth 100000 in
theorem head_low.contains (A0 : Option Addr) (c0 : Nat) (l0 : List S53) (w : World) (hr0 : Kd.C k53 w A0 l0.length l0) (hn : l0.length ≤ 1000000000000) :
  Calls Tryd.prog 30 #[.slice A0 l0.length c0, .func (.func 28) #[] #[]] w fun e w' => e = .returned (.bool (l0.any isLow)) ∧ Below w.heap.size w w' := by
 rw [← idx_nonneg]
 have hi := head_low.idx A0 c0 l0 w hr0 hn
 generalize idxOf isLow l0 = r at hi
 clear hr0
 go_enter Tryd.func30, Tryd.ntmps30
 go_wp2_with (go_at_call 52; refine hi.mono ?_; rintro e w' ⟨rfl, hb⟩)
 go_ret
 exact ⟨rfl, hb⟩
def head_Right.f (k : Nat) (a0 a1 a2 : Int) (l : List S53) : Option Bool :=
 if a1 < 2 then some false else if a2 < 0 then some false else if 8 < (l.length : Int) then some false else
 (span_Right.f k l a1).bind fun b => if b = true then (if l.any isLow = true then some false else (span_Total.f k l).bind fun n => some (decide (a2 ≤ wrap64 (n * 64)) && decide (wrap64 (wrap64 (n * 64) - a2) < 64))) else some false
theorem head_Right.mono : ∀ a0 a1 a2 a3 k, LeO (head_Right.f k a0 a1 a2 a3) (head_Right.f (k + 1) a0 a1 a2 a3) := by
 intro a0 a1 a2 a3 k
 unfold head_Right.f
 refine LeO.ite (LeO.refl _) (LeO.ite (LeO.refl _) (LeO.ite (LeO.refl _) (LeO.bind (span_Right.mono _ _ k) (fun b => LeO.ite (LeO.ite (LeO.refl _) (LeO.bind (span_Total.mono _ k) (fun _ => LeO.refl _))) (LeO.refl _)))))
set_option maxHeartbeats 4000000 in
set_option maxRecDepth 100000 in
theorem head_Right.calls (k : Nat) (a0_0 a0_1 a0_2 : Int) (A0_3 : Option Addr) (c0_3 : Nat) (l0_3 : List S53) (r : Bool) (w : World) (hr0_3 : Kd.C k53 w A0_3 l0_3.length l0_3) (hc0_3 : l0_3.length ≤ c0_3) (h : head_Right.f k a0_0 a0_1 a0_2 l0_3 = some r) :
  Calls Tryd.prog 13 #[.agg #[.int .u64 a0_0, .int .i64 a0_1, .int .i64 a0_2, .slice A0_3 l0_3.length c0_3]] w fun e w' => e = .returned (.bool r) ∧ Below w.heap.size w w' := by
 have HR := Ax.mk hr0_3
 have HC := Ax.mk hc0_3
 have H := Ax.mk h
 clear hr0_3 hc0_3 h
 have hb0 := below_alloc (Below.refl w.heap.size w) (.cells #[.int .u64 a0_0, .int .i64 a0_1, .int .i64 a0_2, .slice A0_3 l0_3.length c0_3] 25)
 have hbk := heap_alloc_new w (.cells #[.int .u64 a0_0, .int .i64 a0_1, .int .i64 a0_2, .slice A0_3 l0_3.length c0_3] 25)
 have HB0 := Ax.mk hb0
 have HBK := Ax.mk hbk
 clear hb0 hbk
 have hh := H.out
 unfold head_Right.f at hh
 by_cases c1 : a0_1 < 2
 ·rw [if_pos c1] at hh
  cases hh
  clear H
  go_enter Tryd.func13, Tryd.ntmps13
  go_wp2
  go_ret
  exact ⟨rfl, HB0.out⟩
 rw [if_neg c1] at hh
 by_cases c2 : a0_2 < 0
 ·rw [if_pos c2] at hh
  cases hh
  clear H
  go_enter Tryd.func13, Tryd.ntmps13
  go_wp2
  go_ret
  exact ⟨rfl, HB0.out⟩
 rw [if_neg c2] at hh
 by_cases c3 : 8 < (l0_3.length : Int)
 ·rw [if_pos c3] at hh
  cases hh
  clear H
  go_enter Tryd.func13, Tryd.ntmps13
  go_wp2
  go_ret
  exact ⟨rfl, HB0.out⟩
 rw [if_neg c3] at hh
 obtain ⟨b, hb, hh⟩ := Option.bind_eq_some_iff.1 hh
 clear H
 have H := Ax.mk hh
 have HSR := Ax.mk hb
 have HN := Ax.mk (show l0_3.length ≤ 8 by omega)
 clear hh hb
 go_enter Tryd.func13, Tryd.ntmps13
 go_wp2_with (first | (go_at_call 29; fail))
 refine (span_Right.calls k A0_3 c0_3 l0_3 a0_1 b _ (Kd.C_below HR.out HB0.out) HC.out HSR.out).mono ?_
 rintro e w1 ⟨rfl, hb1⟩
 have HB1 := Ax.mk (bP HB0.out hb1)
 have hk1 := bB HBK.out hb1
 have h0 := (bC hk1 0).trans rfl
 have h1 := (bC hk1 1).trans rfl
 have h2 := (bC hk1 2).trans rfl
 have h3 := (bC hk1 3).trans rfl
 have HK1 := Ax.mk hk1
 clear hb1 hk1
 cases b with
 | false =>
  have hh := H.out
  rw [if_neg (by decide)] at hh
  cases hh
  clear H
  go_wp2
  go_ret
  exact ⟨rfl, HB1.out⟩
 | true =>
  have hh := H.out
  rw [if_pos rfl] at hh
  clear H
  cases ha : l0_3.any isLow with
  | true =>
   rw [ha, if_pos rfl] at hh
   cases hh
   have hc := fun w hr => head_low.contains A0_3 c0_3 l0_3 w hr (Nat.le_trans HN.out (by decide))
   rw [ha] at hc
   clear ha
   have HCt := Lib.hid hc
   clear hc
   go_wp2_with (first | (go_at_call 30; fail))
   refine (HCt.out _ (Kd.C_below HR.out HB1.out)).mono ?_
   rintro e w2 ⟨rfl, hb2⟩
   have HB2 := Ax.mk (bP HB1.out hb2)
   clear h0 h1 h2 h3 hb2
   go_wp2
   go_ret
   exact ⟨rfl, HB2.out⟩
  | false =>
   rw [ha, if_neg (by decide)] at hh
   obtain ⟨n, hn, hh⟩ := Option.bind_eq_some_iff.1 hh
   cases hh
   have HT := Ax.mk hn
   have hc := fun w hr => head_low.contains A0_3 c0_3 l0_3 w hr (Nat.le_trans HN.out (by decide))
   rw [ha] at hc
   clear ha hn
   have HCt := Lib.hid hc
   clear hc
   go_wp2_with (first | (go_at_call 30; fail))
   refine (HCt.out _ (Kd.C_below HR.out HB1.out)).mono ?_
   rintro e w2 ⟨rfl, hb2⟩
   have HB2 := Ax.mk (bP HB1.out hb2)
   have hk2 := bB HK1.out hb2
   clear h0 h1 h2 h3 hb2 HK1 HB1
   have h0 := (bC hk2 0).trans rfl
   have h1 := (bC hk2 1).trans rfl
   have h2 := (bC hk2 2).trans rfl
   have h3 := (bC hk2 3).trans rfl
   have HK2 := Ax.mk hk2
   clear hk2
   go_wp2_with (first | (go_at_call 31; fail))
   refine (span_Total.calls k A0_3 c0_3 l0_3 n _ (Kd.C_below HR.out HB2.out) HC.out HT.out).mono ?_
   rintro e w3 ⟨rfl, hb3⟩
   have HB3 := Ax.mk (bP HB2.out hb3)
   have hk3 := bB HK2.out hb3
   clear h0 h1 h2 h3 hb3 HK2 HB2
   have h0 := (bC hk3 0).trans rfl
   have h1 := (bC hk3 1).trans rfl
   have h2 := (bC hk3 2).trans rfl
   have h3 := (bC hk3 3).trans rfl
   clear hk3
   by_cases c5 : a0_2 ≤ wrap64 (n * 64)
   ·have b5 : decide (a0_2 ≤ wrap64 (n * 64)) = true := decide_eq_true c5
    have B5 := Ax.mk b5
    go_wp2
    go_ret
    exact ⟨by rw [B5.out, Bool.true_and]; rfl, HB3.out⟩
   ·have b5 : decide (a0_2 ≤ wrap64 (n * 64)) = false := decide_eq_false c5
    have B5 := Ax.mk b5
    go_wp2
    go_ret
    exact ⟨by rw [B5.out, Bool.false_and]; rfl, HB3.out⟩
def r6_Need.f (a0 : Int) : Option (Int) := if (Int.tmod a0 64) > 0 then (some (wrap64 ((wrap64 (Int.tdiv a0 64)) + 1))) else (some (wrap64 (Int.tdiv a0 64)))
set_option maxHeartbeats 8000000 in
set_option maxRecDepth 100000 in
theorem r6_Need.calls (a0 : Int) (r : Int) (w : World) (h : r6_Need.f a0 = some r) :
  Calls Tryd.prog 35 #[.int .i64 a0] w fun e w' => e = .returned (.int .i64 r) ∧ Drawn0 w w' := by
 have H : (if (Int.tmod a0 64) > 0 then (some (wrap64 ((wrap64 (Int.tdiv a0 64)) + 1))) else (some (wrap64 (Int.tdiv a0 64)))) = some r := h
 clear h
 by_cases c2 : (Int.tmod a0 64) > 0
 ·rw [if_pos c2] at H
  have c2b0 : decide (0 < (Int.tmod a0 64)) = true := decide_eq_true c2
  clear c2
  obtain rfl := Option.some.inj H
  go_enter Tryd.func35, Tryd.ntmps35
  go_wp2
  go_ret
  exact ⟨by first | rfl | (simp; done) | (simp [*]; done), by repeat (first | exact Drawn0.refl _ | apply Drawn0.step)⟩
 ·rw [if_neg c2] at H
  have c2b0 : decide (0 < (Int.tmod a0 64)) = false := decide_eq_false c2
  clear c2
  obtain rfl := Option.some.inj H
  go_enter Tryd.func35, Tryd.ntmps35
  go_wp2
  go_ret
  exact ⟨by first | rfl | (simp; done) | (simp [*]; done), by repeat (first | exact Drawn0.refl _ | apply Drawn0.step)⟩
end Go.Proofs.YtcgejogmiglalaaDoor.Fn
end
section
namespace Go.Proofs.YtcgejogmiglalaaDoor.Fn
open Go.RowKit Go.Proofs.YtcgejogmiglalaaDoorW.PrintWords Go.Proofs.YtcgejogmiglalaaDoorW.PrintLast Go.Proofs.YtcgejogmiglalaaDoorW.PrintMore Go.Proofs.YtcgejogmiglalaaDoor.Lf
open List (setIfInBounds_toArray set_cons_zero set_cons_succ)
attribute [local go_sem] max2_int min2_int max_two min_two max_three min_three max_four min_four   -- for this text's walks alone
set_option linter.unusedVariables false
set_option linter.unusedSimpArgs false
def r6_Right.j0 : Nat → Bool → Int → Int → Int → List (S53) → Option (Bool)
 | 0, _, _, _, _, _ => none
 | k + 1, x22, x201000, x201001, x201002, x201003 => if x22 = true then (some false) else ((r5_Right.f k x201003 x201001).bind fun t201 => (if t201 = true then ((r5_Has.f k x201003 0).bind fun t202 => (if t202 = true then (some false) else ((r5_Has.f k x201003 1).bind fun t203 => (if t203 = true then (some false) else ((r5_Total.f k x201003).bind fun t204 => ((r6_Need.f x201002).bind fun t205 => (some (t204 == t205)))))))) else (some false)))
def r6_Right.f (k : Nat) (a0_0 : Int) (a0_1 : Int) (a0_2 : Int) (l0_3 : List (S53)) : Option (Bool) := if a0_1 < 2 then (r6_Right.j0 k true a0_0 a0_1 a0_2 l0_3) else (if a0_1 > 8192 then (r6_Right.j0 k true a0_0 a0_1 a0_2 l0_3) else (if (l0_3.length : Int) > 8 then (r6_Right.j0 k true a0_0 a0_1 a0_2 l0_3) else (r6_Right.j0 k (decide (a0_2 < 0)) a0_0 a0_1 a0_2 l0_3)))
theorem r6_Right.mono_l : ∀ k, (∀ y0 y1 y2 y3 y4, LeO (r6_Right.j0 k y0 y1 y2 y3 y4) (r6_Right.j0 (k + 1) y0 y1 y2 y3 y4))
 | 0 => fun _ _ _ _ _ r h => by simp [r6_Right.j0] at h
 | k + 1 => by
  have ih0 := r6_Right.mono_l k
  ·intro y0 y1 y2 y3 y4
   unfold r6_Right.j0
   repeat' first
   | (with_reducible exact ih0 _ _ _ _ _)
   | (with_reducible exact r5_Has.mono _ _ _)
   | (with_reducible exact r5_Right.mono _ _ _)
   | (with_reducible exact r5_Total.mono _ _)
   | (with_reducible exact LeO.refl _)
   | (with_reducible exact LeO.none _)
   | (with_reducible refine LeO.ite ?_ ?_)
   | (with_reducible refine LeO.bind ?_ (fun _ => ?_))
   | exact ih0 _ _ _ _ _
   | exact r5_Has.mono _ _ _
   | exact r5_Right.mono _ _ _
   | exact r5_Total.mono _ _
   | exact LeO.none _
   | refine LeO.ite ?_ ?_
   | refine LeO.bind ?_ (fun _ => ?_)
theorem r6_Right.mono : ∀ a0 a1 a2 a3 k, LeO (r6_Right.f k a0 a1 a2 a3) (r6_Right.f (k + 1) a0 a1 a2 a3) := by
 intro a0 a1 a2 a3 k
 have ih0 := r6_Right.mono_l k
 unfold r6_Right.f
 repeat' first
   | (with_reducible exact ih0 _ _ _ _ _)
   | (with_reducible exact r5_Has.mono _ _ _)
   | (with_reducible exact r5_Right.mono _ _ _)
   | (with_reducible exact r5_Total.mono _ _)
   | (with_reducible exact LeO.refl _)
   | (with_reducible exact LeO.none _)
   | (with_reducible refine LeO.ite ?_ ?_)
   | (with_reducible refine LeO.bind ?_ (fun _ => ?_))
   | exact ih0 _ _ _ _ _
   | exact r5_Has.mono _ _ _
   | exact r5_Right.mono _ _ _
   | exact r5_Total.mono _ _
   | exact LeO.none _
   | refine LeO.ite ?_ ?_
   | refine LeO.bind ?_ (fun _ => ?_)
def r6_Right.T4 : Bool × List (List Nat × List Nat) := (true, [([], []), ([0], [0]), ([1], [1]), ([2, 1], [1, 2]), ([3, 1, 1], [1, 3]), ([4, 1], [1, 4]), ([1, 5], [1, 5]), ([6, 4], [6]), ([7], [7]), ([8, 7], [7, 8]), ([9, 7, 7], [7, 9]), ([10, 7], [7, 10]), ([7, 11], [7, 11]), ([12, 10], [12]), ([13], [13]), ([14, 13], [13, 14]), ([15, 13, 13], [13, 15]), ([13], [13]), ([17, 13], [13, 17]), ([18, 16, 13], [13, 18]), ([16, 19, 13], [13, 16, 19]), ([13, 20], [13, 20]), ([21, 19, 0, 1, 2, 3, 4, 5, 6, 7, 8, 9, 10, 11, 12, 13, 14, 15, 16, 17, 18, 19, 20, 21], [21])])
def r6_Right.B4 : List Nat := [0, 1, 3, 7, 15, 31, 63, 127, 255, 511, 1023, 2047, 4095, 8191, 16383, 32767, 65535, 16383, 147455, 524287, 1048575, 2097151, 4194303]
theorem r6_Right.tab4 : rtab .any (opsOf Tryd.f14 4) = r6_Right.T4 := by kernel_rfl
theorem r6_Right.bits4 : waitsOk r6_Right.T4.2 r6_Right.B4 = true := by kernel_rfl
set_option maxHeartbeats 8000000 in
set_option maxRecDepth 100000 in
theorem r6_Right.calls (k : Nat) (a0_0 : Int) (a0_1 : Int) (a0_2 : Int) (A0_3 : Option Addr) (c0_3 : Nat) (l0_3 : List (S53)) (r : Bool) (w : World) (hr0_3 : Kd.C k53 w A0_3 l0_3.length l0_3) (hc0_3 : l0_3.length ≤ c0_3) (h : r6_Right.f k a0_0 a0_1 a0_2 l0_3 = some r) :
  Calls Tryd.prog 14 #[.agg #[.int .u64 a0_0, .int .i64 a0_1, .int .i64 a0_2, .slice A0_3 l0_3.length c0_3]] w fun e w' => e = .returned (.bool r) ∧ Below w.heap.size w w' := by
 have hu31 := Tryd.underlying31
 have HR0_3 := Ax.mk hr0_3
 have HC0_3 := Ax.mk hc0_3
 clear hr0_3 hc0_3
 have HB := Ax.mk (Below.refl w.heap.size w)
 have H : (if a0_1 < 2 then (r6_Right.j0 k true a0_0 a0_1 a0_2 l0_3) else (if a0_1 > 8192 then (r6_Right.j0 k true a0_0 a0_1 a0_2 l0_3) else (if (l0_3.length : Int) > 8 then (r6_Right.j0 k true a0_0 a0_1 a0_2 l0_3) else (r6_Right.j0 k (decide (a0_2 < 0)) a0_0 a0_1 a0_2 l0_3)))) = some r := h
 clear h
 have HC2 := Ax.mk H
 clear H
 go_enter Tryd.func14, Tryd.ntmps14
 go_upto_region 1 with (first | ((with_reducible refine gate_dst (N := 1) rfl ?_); (try (refine gate_guard (by rfl) ?_; dsimp only)); refine box_event ?hg (N := 1) ?hd (cs := #[.int .u64 a0_0, .int .i64 a0_1, .int .i64 a0_2, .slice A0_3 l0_3.length c0_3]) (t := 31) ?hr ?_; (case hd => rfl); (case hg => rfl); (case hr => first | (go_simp; done) | (go_simp; rfl)); intro gb200 hg w3 hbox hb; have n0_ := Ax.mk (bP bA hb); have n1_ := Ax.mk (hbox); have n2_ := Ax.mk ((ge_new hg : w.heap.size ≤ gb200)); have n3_ := n2_; clear HB; have HB := n0_; have BK200 := n1_; have GW200 := n2_; have GE200 := n3_; clear n0_ n1_ n2_ n3_; clear hb hbox hg))
 (try simp only [Act.put, setIfInBounds_toArray, set_cons_zero, set_cons_succ])
 go_cut [22] (fun v22 wc => ∃ (kq : Nat) (x22_1 : Bool), v22 = .bool x22_1 ∧ Ax (r6_Right.j0 kq x22_1 a0_0 a0_1 a0_2 l0_3 = some r) ∧ Ax (kq ≤ k) ∧ Ax (wc.heap[gb200]? = some (.cells #[.int .u64 a0_0, .int .i64 a0_1, .int .i64 a0_2, (.slice A0_3 l0_3.length c0_3)] 31 (0, 0))) ∧ Ax (Below w.heap.size w wc))
 case first =>
  have H := HC2.out
  clear HC2
  by_cases c4 : a0_1 < 2
  ·rw [if_pos c4] at H
   have c4b0 : decide (a0_1 < 2) = true := decide_eq_true c4
   clear c4
   (first | rw [c4b0] | (simp only [i64_w, i32_w]; rw [c4b0]) | skip)
   have H' := Ax.mk H
   clear H
   have hcz5_0 : w3.cell? ⟨gb200, 0, none⟩ = some (.int .u64 a0_0) := (bC BK200.out 0).trans rfl
   have hcz5_1 : w3.cell? ⟨gb200, 1, none⟩ = some (.int .i64 a0_1) := (bC BK200.out 1).trans rfl
   have hcz5_2 : w3.cell? ⟨gb200, 2, none⟩ = some (.int .i64 a0_2) := (bC BK200.out 2).trans rfl
   have hcz5_3 : w3.cell? ⟨gb200, 3, none⟩ = some (.slice A0_3 l0_3.length c0_3) := (bC BK200.out 3).trans rfl
   have hfz5_0 := bF BK200.out 0
   have hfz5_1 := bF BK200.out 1
   have hfz5_2 := bF BK200.out 2
   have hfz5_3 := bF BK200.out 3
   go_wp2
   go_meet
   case rel => exact ⟨_, (true), (by first | rfl | (simp; done) | (simp [*]; done)), H', ⟨by first | omega | exact Nat.le_refl _⟩, ⟨by refine bT ?_; exact BK200.out⟩, ⟨bA⟩⟩
  ·rw [if_neg c4] at H
   have c4b0 : decide (a0_1 < 2) = false := decide_eq_false c4
   clear c4
   (first | rw [c4b0] | (simp only [i64_w, i32_w]; rw [c4b0]) | skip)
   by_cases c6 : a0_1 > 8192
   ·rw [if_pos c6] at H
    have c6b0 : decide (8192 < a0_1) = true := decide_eq_true c6
    clear c6
    have H' := Ax.mk H
    clear H
    have hcz7_0 : w3.cell? ⟨gb200, 0, none⟩ = some (.int .u64 a0_0) := (bC BK200.out 0).trans rfl
    have hcz7_1 : w3.cell? ⟨gb200, 1, none⟩ = some (.int .i64 a0_1) := (bC BK200.out 1).trans rfl
    have hcz7_2 : w3.cell? ⟨gb200, 2, none⟩ = some (.int .i64 a0_2) := (bC BK200.out 2).trans rfl
    have hcz7_3 : w3.cell? ⟨gb200, 3, none⟩ = some (.slice A0_3 l0_3.length c0_3) := (bC BK200.out 3).trans rfl
    have hfz7_0 := bF BK200.out 0
    have hfz7_1 := bF BK200.out 1
    have hfz7_2 := bF BK200.out 2
    have hfz7_3 := bF BK200.out 3
    go_wp2
    go_meet
    case rel => exact ⟨_, (true), (by first | rfl | (simp; done) | (simp [*]; done)), H', ⟨by first | omega | exact Nat.le_refl _⟩, ⟨by refine bT ?_; exact BK200.out⟩, ⟨bA⟩⟩
   ·rw [if_neg c6] at H
    have c6b0 : decide (8192 < a0_1) = false := decide_eq_false c6
    clear c6
    by_cases c8 : (l0_3.length : Int) > 8
    ·rw [if_pos c8] at H
     have c8b0 : decide (8 < (l0_3.length : Int)) = true := decide_eq_true c8
     have c8b1 : decide (8 < l0_3.length) = true := decide_eq_true (by omega)
     clear c8
     have H' := Ax.mk H
     clear H
     have hcz9_0 : w3.cell? ⟨gb200, 0, none⟩ = some (.int .u64 a0_0) := (bC BK200.out 0).trans rfl
     have hcz9_1 : w3.cell? ⟨gb200, 1, none⟩ = some (.int .i64 a0_1) := (bC BK200.out 1).trans rfl
     have hcz9_2 : w3.cell? ⟨gb200, 2, none⟩ = some (.int .i64 a0_2) := (bC BK200.out 2).trans rfl
     have hcz9_3 : w3.cell? ⟨gb200, 3, none⟩ = some (.slice A0_3 l0_3.length c0_3) := (bC BK200.out 3).trans rfl
     have hfz9_0 := bF BK200.out 0
     have hfz9_1 := bF BK200.out 1
     have hfz9_2 := bF BK200.out 2
     have hfz9_3 := bF BK200.out 3
     go_wp2
     go_meet
     case rel => exact ⟨_, (true), (by first | rfl | (simp; done) | (simp [*]; done)), H', ⟨by first | omega | exact Nat.le_refl _⟩, ⟨by refine bT ?_; exact BK200.out⟩, ⟨bA⟩⟩
    ·rw [if_neg c8] at H
     have c8b0 : decide (8 < (l0_3.length : Int)) = false := decide_eq_false c8
     have c8b1 : decide (8 < l0_3.length) = false := decide_eq_false (by omega)
     clear c8
     have H' := Ax.mk H
     clear H
     have hcz10_0 : w3.cell? ⟨gb200, 0, none⟩ = some (.int .u64 a0_0) := (bC BK200.out 0).trans rfl
     have hcz10_1 : w3.cell? ⟨gb200, 1, none⟩ = some (.int .i64 a0_1) := (bC BK200.out 1).trans rfl
     have hcz10_2 : w3.cell? ⟨gb200, 2, none⟩ = some (.int .i64 a0_2) := (bC BK200.out 2).trans rfl
     have hcz10_3 : w3.cell? ⟨gb200, 3, none⟩ = some (.slice A0_3 l0_3.length c0_3) := (bC BK200.out 3).trans rfl
     have hfz10_0 := bF BK200.out 0
     have hfz10_1 := bF BK200.out 1
     have hfz10_2 := bF BK200.out 2
     have hfz10_3 := bF BK200.out 3
     go_wp2
     go_meet
     case rel => exact ⟨_, (decide (a0_2 < 0)), (by first | rfl | (simp; done) | (simp [*]; done)), H', ⟨by first | omega | exact Nat.le_refl _⟩, ⟨by refine bT ?_; exact BK200.out⟩, ⟨bA⟩⟩
 case rest =>
  clear HC2
  try clear c1
  try clear p2
  try clear c4
  try clear c4b0
  try clear c6
  try clear c6b0
  try clear c8
  try clear c8b0
  try clear c8b1
  try clear hcz10_0
  try clear hcz10_1
  try clear hcz10_2
  try clear hcz10_3
  try clear hcz5_0
  try clear hcz5_1
  try clear hcz5_2
  try clear hcz5_3
  try clear hcz7_0
  try clear hcz7_1
  try clear hcz7_2
  try clear hcz7_3
  try clear hcz9_0
  try clear hcz9_1
  try clear hcz9_2
  try clear hcz9_3
  try clear hfz10_0
  try clear hfz10_1
  try clear hfz10_2
  try clear hfz10_3
  try clear hfz5_0
  try clear hfz5_1
  try clear hfz5_2
  try clear hfz5_3
  try clear hfz7_0
  try clear hfz7_1
  try clear hfz7_2
  try clear hfz7_3
  try clear hfz9_0
  try clear hfz9_1
  try clear hfz9_2
  try clear hfz9_3
  obtain ⟨kq, x22_1, rfl, HA, HJ1, BK200, HB⟩ := hcut
  cases kq with
  | zero => exact absurd HA.out (by simp [r6_Right.j0])
  | succ kj1 =>
   have H := HA.out
   clear HA
   simp only [r6_Right.j0] at H
   by_cases c11 : x22_1 = true
   ·subst c11
    have H1 : (some false) = some r := by rw [if_pos rfl] at H; exact H
    clear H
    have H := H1
    clear H1
    obtain rfl := Option.some.inj H
    go_wp2
    go_ret
    exact ⟨by first | rfl | (simp [errW_none, errW_some] <;> rfl) | (simp [*, errW_none, errW_some] <;> rfl), bA⟩
   ·replace c11 := Bool.eq_false_iff.mpr c11
    subst c11
    have H1 : ((r5_Right.f kj1 l0_3 a0_1).bind fun t201 => (if t201 = true then ((r5_Has.f kj1 l0_3 0).bind fun t202 => (if t202 = true then (some false) else ((r5_Has.f kj1 l0_3 1).bind fun t203 => (if t203 = true then (some false) else ((r5_Total.f kj1 l0_3).bind fun t204 => ((r6_Need.f a0_2).bind fun t205 => (some (t204 == t205)))))))) else (some false))) = some r := by rw [if_neg (show ¬ (false = true) by decide)] at H; exact H
    clear H
    have H := H1
    clear H1
    replace H := Option.bind_eq_some_iff.mp H
    obtain ⟨t201, A120, H⟩ := H
    replace H : (if t201 = true then ((r5_Has.f kj1 l0_3 0).bind fun t202 => (if t202 = true then (some false) else ((r5_Has.f kj1 l0_3 1).bind fun t203 => (if t203 = true then (some false) else ((r5_Total.f kj1 l0_3).bind fun t204 => ((r6_Need.f a0_2).bind fun t205 => (some (t204 == t205)))))))) else (some false)) = some r := H
    have A12 := Ax.mk A120
    clear A120
    by_cases c13 : t201 = true
    ·subst c13
     have H1 : ((r5_Has.f kj1 l0_3 0).bind fun t202 => (if t202 = true then (some false) else ((r5_Has.f kj1 l0_3 1).bind fun t203 => (if t203 = true then (some false) else ((r5_Total.f kj1 l0_3).bind fun t204 => ((r6_Need.f a0_2).bind fun t205 => (some (t204 == t205)))))))) = some r := by rw [if_pos rfl] at H; exact H
     clear H
     have H := H1
     clear H1
     replace H := Option.bind_eq_some_iff.mp H
     obtain ⟨t202, A140, H⟩ := H
     replace H : (if t202 = true then (some false) else ((r5_Has.f kj1 l0_3 1).bind fun t203 => (if t203 = true then (some false) else ((r5_Total.f kj1 l0_3).bind fun t204 => ((r6_Need.f a0_2).bind fun t205 => (some (t204 == t205))))))) = some r := H
     have A14 := Ax.mk A140
     clear A140
     by_cases c15 : t202 = true
     ·subst c15
      have H1 : (some false) = some r := by rw [if_pos rfl] at H; exact H
      clear H
      have H := H1
      clear H1
      obtain rfl := Option.some.inj H
      have hcz16_0 : wc.cell? ⟨gb200, 0, none⟩ = some (.int .u64 a0_0) := (bC BK200.out 0).trans rfl
      have hcz16_1 : wc.cell? ⟨gb200, 1, none⟩ = some (.int .i64 a0_1) := (bC BK200.out 1).trans rfl
      have hcz16_2 : wc.cell? ⟨gb200, 2, none⟩ = some (.int .i64 a0_2) := (bC BK200.out 2).trans rfl
      have hcz16_3 : wc.cell? ⟨gb200, 3, none⟩ = some (.slice A0_3 l0_3.length c0_3) := (bC BK200.out 3).trans rfl
      have hfz16_0 := bF BK200.out 0
      have hfz16_1 := bF BK200.out 1
      have hfz16_2 := bF BK200.out 2
      have hfz16_3 := bF BK200.out 3
      try go_wp2_with (first | ((with_reducible refine gate_callee (f := 32) rfl ?_); refine goesL_ (some 27) rfl rfl Tryd.func32 (by kernel_rfl) rfl #[.slice A0_3 l0_3.length c0_3, .int .i64 a0_1] rfl (by (try simp only [List.map_toArray, List.map_cons, List.map_nil]); first | done | rfl | (simp only [List.length_drop, List.length_take]; rfl) | (rw [wrap_sum2 (by assumption)]; rfl)) ?_; (with_reducible refine (r5_Right.calls kj1 _ _ l0_3 a0_1 true _ ?side1 ?side2 A12.out).mono ?_); (case side1 => repeat (first | exact (Kd.C_below HR0_3.out HB.out) | (with_reducible refine Kd.C_alloc ?_ _) | (with_reducible refine Kd.C_drewN ?_ _) | (with_reducible refine Kd.C_drew ?_))); (case side2 => exact HC0_3.out); rintro e w17 ⟨rfl, hb⟩; refine ⟨_, rfl, ?_⟩; have n0_ := Ax.mk (bB (bT BK200.out) hb); have n1_ := Ax.mk (bP bA hb); clear BK200; clear HB; have BK200 := n0_; have HB := n1_; clear n0_ n1_; (try clear hb); (try clear hb2); (try clear hk); (try clear hi)))
      have n0_ := Ax.mk (blk_drew BK200.out)
      have n1_ := Ax.mk (below_drew1 HB.out)
      clear BK200
      clear HB
      have BK200 := n0_
      have HB := n1_
      clear n0_ n1_
      refine start_ (n := 23) (S := fun w' => w'.cell? ⟨gb200, 0, none⟩ = some (.int .u64 a0_0) ∧ w'.cell? ⟨gb200, 1, none⟩ = some (.int .i64 a0_1) ∧ w'.cell? ⟨gb200, 2, none⟩ = some (.int .i64 a0_2) ∧ w'.cell? ⟨gb200, 3, none⟩ = some (.slice A0_3 l0_3.length c0_3)) (ds := []) #[false, false, false, false, false, false, false, false, false, false, false, false, false, false, false, false, false, false, false, false, false, false, false] (by kernel_rfl) rfl rfl ⟨(bC BK200.out 0).trans rfl, (bC BK200.out 1).trans rfl, (bC BK200.out 2).trans rfl, (bC BK200.out 3).trans rfl⟩ (fun hHeld => ?_); refine with_tabW r6_Right.tab4 r6_Right.bits4 (fun HT_ HW_ => ?_)
      generalize w17.drew = w18 at BK200 HB hHeld ⊢
      refine pure_ (i := 0) (N := some 28) (v := ?_) (a' := ?_) #[true, false, false, false, false, false, false, false, false, false, false, false, false, false, false, false, false, false, false, false, false, false, false] rfl rfl (any_of HT_.out (by kernel_rfl)) (fun _ _ _ h => h) (Or.inl ⟨by rfl, ?_⟩) ?_ ?_
      rotate_left
      ·intro w'
       go_simp
       with_reducible rfl
      rotate_left
      ·simp only [Act.put, setIfInBounds_toArray, set_cons_zero, set_cons_succ, i64_w, i32_w]
       rfl
      refine pure_ (i := 1) (N := some 29) (v := ?_) (a' := ?_) #[true, true, false, false, false, false, false, false, false, false, false, false, false, false, false, false, false, false, false, false, false, false, false] rfl rfl (any_of HT_.out (by kernel_rfl)) (fun _ _ _ h => h) (Or.inl ⟨by rfl, ?_⟩) ?_ ?_
      rotate_left
      ·intro w'
       go_simp
       with_reducible rfl
      rotate_left
      ·simp only [Act.put, setIfInBounds_toArray, set_cons_zero, set_cons_succ, i64_w, i32_w]
       rfl
      refine pure_ (i := 2) (N := some 30) (v := ?_) (a' := ?_) #[true, true, true, false, false, false, false, false, false, false, false, false, false, false, false, false, false, false, false, false, false, false, false] rfl rfl (any_of HT_.out (by kernel_rfl)) (fun _ _ _ h => h) (Or.inl ⟨by rfl, ?_⟩) ?_ ?_
      rotate_left
      ·intro w'
       go_simp
       with_reducible rfl
      rotate_left
      ·simp only [Act.put, setIfInBounds_toArray, set_cons_zero, set_cons_succ, i64_w, i32_w]
       rfl
      refine take_ (i := 3) (N := some 31) (v := ?_) (a' := ?_) #[true, true, true, true, false, false, false, false, false, false, false, false, false, false, false, false, false, false, false, false, false, false, false] rfl rfl (take_ofW HT_.out HW_.out (by kernel_rfl)) (fun _ _ _ h => h) (Or.inl ⟨by rfl, ?_⟩) hHeld ?_ ?_
      rotate_left
      ·rintro w' ⟨s0, s1, s2, s3⟩
       go_simp
       with_reducible rfl
      rotate_left
      ·simp only [Act.put, setIfInBounds_toArray, set_cons_zero, set_cons_succ, i64_w, i32_w]
       rfl
      refine one_ (i := 4) (N := some 32) #[true, true, true, true, true, false, false, false, false, false, false, false, false, false, false, false, false, false, false, false, false, false, false] rfl rfl (one_of HT_.out (by kernel_rfl)) (by decide) (fun K hK => ?_)
      refine goes_ Tryd.func33 (by kernel_rfl) rfl #[.slice A0_3 l0_3.length c0_3, .int .i64 0] (by rfl) rfl rfl (by (try simp only [List.map_toArray, List.map_cons, List.map_nil]); first | done | rfl | (simp only [List.length_drop, List.length_take]; rfl) | (rw [wrap_sum2 (by assumption)]; rfl)) ?_
      with_reducible refine (r5_Has.calls kj1 _ _ l0_3 0 true _ ?side1 ?side2 A14.out).mono ?_
      (case side1 => repeat (first | exact (Kd.C_below HR0_3.out HB.out) | (with_reducible refine Kd.C_alloc ?_ _) | (with_reducible refine Kd.C_drewN ?_ _) | (with_reducible refine Kd.C_drew ?_)))
      (case side2 => exact HC0_3.out)
      rintro e w' ⟨rfl, ⟨nd, rfl⟩⟩
      refine ⟨_, rfl, ?_⟩
      refine hK.out _ _ ⟨(bC BK200.out 0).trans rfl, (bC BK200.out 1).trans rfl, (bC BK200.out 2).trans rfl, (bC BK200.out 3).trans rfl⟩ (fun hHeld => ?_)
      clear hK K
      refine norm_ (a' := ?_) ?_ ?_
      rotate_left
      ·show Act.put _ (some 32) _ = _
       simp only [Act.put, setIfInBounds_toArray, set_cons_zero, set_cons_succ, i64_w, i32_w]
       rfl
      refine pure_ (i := 5) (N := some 33) (v := ?_) (a' := ?_) #[true, true, true, true, true, true, false, false, false, false, false, false, false, false, false, false, false, false, false, false, false, false, false] rfl rfl (any_of HT_.out (by kernel_rfl)) (fun _ _ _ h => h) (Or.inl ⟨by rfl, ?_⟩) ?_ ?_
      rotate_left
      ·intro w'
       go_simp
       with_reducible rfl
      rotate_left
      ·simp only [Act.put, setIfInBounds_toArray, set_cons_zero, set_cons_succ, i64_w, i32_w]
       rfl
      refine pure_ (i := 6) (N := some 34) (v := ?_) (a' := ?_) #[true, true, true, true, true, true, true, false, false, false, false, false, false, false, false, false, false, false, false, false, false, false, false] rfl rfl (any_of HT_.out (by kernel_rfl)) (fun _ _ _ h => h) (Or.inl ⟨by rfl, ?_⟩) ?_ ?_
      rotate_left
      ·intro w'
       go_simp
       with_reducible rfl
      rotate_left
      ·simp only [Act.put, setIfInBounds_toArray, set_cons_zero, set_cons_succ, i64_w, i32_w]
       rfl
      refine pure_ (i := 7) (N := some 35) (v := ?_) (a' := ?_) #[true, true, true, true, true, true, true, true, false, false, false, false, false, false, false, false, false, false, false, false, false, false, false] rfl rfl (any_of HT_.out (by kernel_rfl)) (fun _ _ _ h => h) (Or.inl ⟨by rfl, ?_⟩) ?_ ?_
      rotate_left
      ·intro w'
       go_simp
       with_reducible rfl
      rotate_left
      ·simp only [Act.put, setIfInBounds_toArray, set_cons_zero, set_cons_succ, i64_w, i32_w]
       rfl
      refine pure_ (i := 8) (N := some 36) (v := undef) (a' := ?_) #[true, true, true, true, true, true, true, true, true, false, false, false, false, false, false, false, false, false, false, false, false, false, false] rfl rfl (any_of HT_.out (by kernel_rfl)) (fun _ _ _ h => h) (Or.inr ⟨by rfl, rfl⟩) ?_ ?_
      rotate_left
      ·simp only [Act.put, setIfInBounds_toArray, set_cons_zero, set_cons_succ, i64_w, i32_w]
       rfl
      refine pure_ (i := 9) (N := some 37) (v := undef) (a' := ?_) #[true, true, true, true, true, true, true, true, true, true, false, false, false, false, false, false, false, false, false, false, false, false, false] rfl rfl (any_of HT_.out (by kernel_rfl)) (fun _ _ _ h => h) (Or.inr ⟨by rfl, rfl⟩) ?_ ?_
      rotate_left
      ·simp only [Act.put, setIfInBounds_toArray, set_cons_zero, set_cons_succ, i64_w, i32_w]
       rfl
      refine pure_ (i := 10) (N := some 38) (v := undef) (a' := ?_) #[true, true, true, true, true, true, true, true, true, true, true, false, false, false, false, false, false, false, false, false, false, false, false] rfl rfl (any_of HT_.out (by kernel_rfl)) (fun _ _ _ h => h) (Or.inr ⟨by rfl, rfl⟩) ?_ ?_
      rotate_left
      ·simp only [Act.put, setIfInBounds_toArray, set_cons_zero, set_cons_succ, i64_w, i32_w]
       rfl
      refine pure_ (i := 11) (N := some 39) (v := undef) (a' := ?_) #[true, true, true, true, true, true, true, true, true, true, true, true, false, false, false, false, false, false, false, false, false, false, false] rfl rfl (any_of HT_.out (by kernel_rfl)) (fun _ _ _ h => h) (Or.inr ⟨by rfl, rfl⟩) ?_ ?_
      rotate_left
      ·simp only [Act.put, setIfInBounds_toArray, set_cons_zero, set_cons_succ, i64_w, i32_w]
       rfl
      refine pure_ (i := 12) (N := some 40) (v := ?_) (a' := ?_) #[true, true, true, true, true, true, true, true, true, true, true, true, true, false, false, false, false, false, false, false, false, false, false] rfl rfl (any_of HT_.out (by kernel_rfl)) (fun _ _ _ h => h) (Or.inl ⟨by rfl, ?_⟩) ?_ ?_
      rotate_left
      ·intro w'
       go_simp
       with_reducible rfl
      rotate_left
      ·simp only [Act.put, setIfInBounds_toArray, set_cons_zero, set_cons_succ, i64_w, i32_w]
       rfl
      refine pure_ (i := 13) (N := some 41) (v := ?_) (a' := ?_) #[true, true, true, true, true, true, true, true, true, true, true, true, true, true, false, false, false, false, false, false, false, false, false] rfl rfl (any_of HT_.out (by kernel_rfl)) (fun _ _ _ h => h) (Or.inl ⟨by rfl, ?_⟩) ?_ ?_
      rotate_left
      ·intro w'
       go_simp
       with_reducible rfl
      rotate_left
      ·simp only [Act.put, setIfInBounds_toArray, set_cons_zero, set_cons_succ, i64_w, i32_w]
       rfl
      refine pure_ (i := 14) (N := some 42) (v := undef) (a' := ?_) #[true, true, true, true, true, true, true, true, true, true, true, true, true, true, true, false, false, false, false, false, false, false, false] rfl rfl (any_of HT_.out (by kernel_rfl)) (fun _ _ _ h => h) (Or.inr ⟨by rfl, rfl⟩) ?_ ?_
      rotate_left
      ·simp only [Act.put, setIfInBounds_toArray, set_cons_zero, set_cons_succ, i64_w, i32_w]
       rfl
      refine pure_ (i := 15) (N := some 43) (v := undef) (a' := ?_) #[true, true, true, true, true, true, true, true, true, true, true, true, true, true, true, true, false, false, false, false, false, false, false] rfl rfl (any_of HT_.out (by kernel_rfl)) (fun _ _ _ h => h) (Or.inr ⟨by rfl, rfl⟩) ?_ ?_
      rotate_left
      ·simp only [Act.put, setIfInBounds_toArray, set_cons_zero, set_cons_succ, i64_w, i32_w]
       rfl
      refine pure_ (i := 16) (N := some 44) (v := undef) (a' := ?_) #[true, true, true, true, true, true, true, true, true, true, true, true, true, true, true, true, true, false, false, false, false, false, false] rfl rfl (any_of HT_.out (by kernel_rfl)) (fun _ _ _ h => h) (Or.inr ⟨by rfl, rfl⟩) ?_ ?_
      rotate_left
      ·simp only [Act.put, setIfInBounds_toArray, set_cons_zero, set_cons_succ, i64_w, i32_w]
       rfl
      refine pure_ (i := 17) (N := some 45) (v := undef) (a' := ?_) #[true, true, true, true, true, true, true, true, true, true, true, true, true, true, true, true, true, true, false, false, false, false, false] rfl rfl (any_of HT_.out (by kernel_rfl)) (fun _ _ _ h => h) (Or.inr ⟨by rfl, rfl⟩) ?_ ?_
      rotate_left
      ·simp only [Act.put, setIfInBounds_toArray, set_cons_zero, set_cons_succ, i64_w, i32_w]
       rfl
      refine pure_ (i := 18) (N := some 46) (v := undef) (a' := ?_) #[true, true, true, true, true, true, true, true, true, true, true, true, true, true, true, true, true, true, true, false, false, false, false] rfl rfl (any_of HT_.out (by kernel_rfl)) (fun _ _ _ h => h) (Or.inr ⟨by rfl, rfl⟩) ?_ ?_
      rotate_left
      ·simp only [Act.put, setIfInBounds_toArray, set_cons_zero, set_cons_succ, i64_w, i32_w]
       rfl
      refine pure_ (i := 19) (N := some 47) (v := undef) (a' := ?_) #[true, true, true, true, true, true, true, true, true, true, true, true, true, true, true, true, true, true, true, true, false, false, false] rfl rfl (any_of HT_.out (by kernel_rfl)) (fun _ _ _ h => h) (Or.inr ⟨by rfl, rfl⟩) ?_ ?_
      rotate_left
      ·simp only [Act.put, setIfInBounds_toArray, set_cons_zero, set_cons_succ, i64_w, i32_w]
       rfl
      refine pure_ (i := 20) (N := some 48) (v := undef) (a' := ?_) #[true, true, true, true, true, true, true, true, true, true, true, true, true, true, true, true, true, true, true, true, true, false, false] rfl rfl (any_of HT_.out (by kernel_rfl)) (fun _ _ _ h => h) (Or.inr ⟨by rfl, rfl⟩) ?_ ?_
      rotate_left
      ·simp only [Act.put, setIfInBounds_toArray, set_cons_zero, set_cons_succ, i64_w, i32_w]
       rfl
      refine pure_ (i := 21) (N := some 49) (v := ?_) (a' := ?_) #[true, true, true, true, true, true, true, true, true, true, true, true, true, true, true, true, true, true, true, true, true, true, false] rfl rfl (any_of HT_.out (by kernel_rfl)) (fun _ _ _ h => h) (Or.inl ⟨by rfl, ?_⟩) ?_ ?_
      rotate_left
      ·intro w'
       go_simp
       with_reducible rfl
      rotate_left
      ·simp only [Act.put, setIfInBounds_toArray, set_cons_zero, set_cons_succ, i64_w, i32_w]
       rfl
      refine pure_ (i := 22) (N := some 2) (v := ?_) (a' := ?_) #[true, true, true, true, true, true, true, true, true, true, true, true, true, true, true, true, true, true, true, true, true, true, true] rfl rfl (any_of HT_.out (by kernel_rfl)) (fun _ _ _ h => h) (Or.inl ⟨by rfl, ?_⟩) ?_ ?_
      rotate_left
      ·intro w'
       go_simp
       with_reducible rfl
      rotate_left
      ·simp only [Act.put, setIfInBounds_toArray, set_cons_zero, set_cons_succ, i64_w, i32_w]
       rfl
      refine done_ (done_of HT_.out (by kernel_rfl)) ?_
      try go_wp2
      go_ret
      exact ⟨by first | rfl | (simp [errW_none, errW_some] <;> rfl) | (simp [*, errW_none, errW_some] <;> rfl), bA⟩
     ·replace c15 := Bool.eq_false_iff.mpr c15
      subst c15
      have H1 : ((r5_Has.f kj1 l0_3 1).bind fun t203 => (if t203 = true then (some false) else ((r5_Total.f kj1 l0_3).bind fun t204 => ((r6_Need.f a0_2).bind fun t205 => (some (t204 == t205)))))) = some r := by rw [if_neg (show ¬ (false = true) by decide)] at H; exact H
      clear H
      have H := H1
      clear H1
      replace H := Option.bind_eq_some_iff.mp H
      obtain ⟨t203, A190, H⟩ := H
      replace H : (if t203 = true then (some false) else ((r5_Total.f kj1 l0_3).bind fun t204 => ((r6_Need.f a0_2).bind fun t205 => (some (t204 == t205))))) = some r := H
      have A19 := Ax.mk A190
      clear A190
      by_cases c20 : t203 = true
      ·subst c20
       have H1 : (some false) = some r := by rw [if_pos rfl] at H; exact H
       clear H
       have H := H1
       clear H1
       obtain rfl := Option.some.inj H
       have hcz21_0 : wc.cell? ⟨gb200, 0, none⟩ = some (.int .u64 a0_0) := (bC BK200.out 0).trans rfl
       have hcz21_1 : wc.cell? ⟨gb200, 1, none⟩ = some (.int .i64 a0_1) := (bC BK200.out 1).trans rfl
       have hcz21_2 : wc.cell? ⟨gb200, 2, none⟩ = some (.int .i64 a0_2) := (bC BK200.out 2).trans rfl
       have hcz21_3 : wc.cell? ⟨gb200, 3, none⟩ = some (.slice A0_3 l0_3.length c0_3) := (bC BK200.out 3).trans rfl
       have hfz21_0 := bF BK200.out 0
       have hfz21_1 := bF BK200.out 1
       have hfz21_2 := bF BK200.out 2
       have hfz21_3 := bF BK200.out 3
       try go_wp2_with (first | ((with_reducible refine gate_callee (f := 32) rfl ?_); refine goesL_ (some 27) rfl rfl Tryd.func32 (by kernel_rfl) rfl #[.slice A0_3 l0_3.length c0_3, .int .i64 a0_1] rfl (by (try simp only [List.map_toArray, List.map_cons, List.map_nil]); first | done | rfl | (simp only [List.length_drop, List.length_take]; rfl) | (rw [wrap_sum2 (by assumption)]; rfl)) ?_; (with_reducible refine (r5_Right.calls kj1 _ _ l0_3 a0_1 true _ ?side1 ?side2 A12.out).mono ?_); (case side1 => repeat (first | exact (Kd.C_below HR0_3.out HB.out) | (with_reducible refine Kd.C_alloc ?_ _) | (with_reducible refine Kd.C_drewN ?_ _) | (with_reducible refine Kd.C_drew ?_))); (case side2 => exact HC0_3.out); rintro e w22 ⟨rfl, hb⟩; refine ⟨_, rfl, ?_⟩; have n0_ := Ax.mk (bB (bT BK200.out) hb); have n1_ := Ax.mk (bP bA hb); clear BK200; clear HB; have BK200 := n0_; have HB := n1_; clear n0_ n1_; (try clear hb); (try clear hb2); (try clear hk); (try clear hi)))
       have n0_ := Ax.mk (blk_drew BK200.out)
       have n1_ := Ax.mk (below_drew1 HB.out)
       clear BK200
       clear HB
       have BK200 := n0_
       have HB := n1_
       clear n0_ n1_
       refine start_ (n := 23) (S := fun w' => w'.cell? ⟨gb200, 0, none⟩ = some (.int .u64 a0_0) ∧ w'.cell? ⟨gb200, 1, none⟩ = some (.int .i64 a0_1) ∧ w'.cell? ⟨gb200, 2, none⟩ = some (.int .i64 a0_2) ∧ w'.cell? ⟨gb200, 3, none⟩ = some (.slice A0_3 l0_3.length c0_3)) (ds := []) #[false, false, false, false, false, false, false, false, false, false, false, false, false, false, false, false, false, false, false, false, false, false, false] (by kernel_rfl) rfl rfl ⟨(bC BK200.out 0).trans rfl, (bC BK200.out 1).trans rfl, (bC BK200.out 2).trans rfl, (bC BK200.out 3).trans rfl⟩ (fun hHeld => ?_); refine with_tabW r6_Right.tab4 r6_Right.bits4 (fun HT_ HW_ => ?_)
       generalize w22.drew = w23 at BK200 HB hHeld ⊢
       refine pure_ (i := 0) (N := some 28) (v := ?_) (a' := ?_) #[true, false, false, false, false, false, false, false, false, false, false, false, false, false, false, false, false, false, false, false, false, false, false] rfl rfl (any_of HT_.out (by kernel_rfl)) (fun _ _ _ h => h) (Or.inl ⟨by rfl, ?_⟩) ?_ ?_
       rotate_left
       ·intro w'
        go_simp
        with_reducible rfl
       rotate_left
       ·simp only [Act.put, setIfInBounds_toArray, set_cons_zero, set_cons_succ, i64_w, i32_w]
        rfl
       refine pure_ (i := 1) (N := some 29) (v := ?_) (a' := ?_) #[true, true, false, false, false, false, false, false, false, false, false, false, false, false, false, false, false, false, false, false, false, false, false] rfl rfl (any_of HT_.out (by kernel_rfl)) (fun _ _ _ h => h) (Or.inl ⟨by rfl, ?_⟩) ?_ ?_
       rotate_left
       ·intro w'
        go_simp
        with_reducible rfl
       rotate_left
       ·simp only [Act.put, setIfInBounds_toArray, set_cons_zero, set_cons_succ, i64_w, i32_w]
        rfl
       refine pure_ (i := 2) (N := some 30) (v := ?_) (a' := ?_) #[true, true, true, false, false, false, false, false, false, false, false, false, false, false, false, false, false, false, false, false, false, false, false] rfl rfl (any_of HT_.out (by kernel_rfl)) (fun _ _ _ h => h) (Or.inl ⟨by rfl, ?_⟩) ?_ ?_
       rotate_left
       ·intro w'
        go_simp
        with_reducible rfl
       rotate_left
       ·simp only [Act.put, setIfInBounds_toArray, set_cons_zero, set_cons_succ, i64_w, i32_w]
        rfl
       refine take_ (i := 3) (N := some 31) (v := ?_) (a' := ?_) #[true, true, true, true, false, false, false, false, false, false, false, false, false, false, false, false, false, false, false, false, false, false, false] rfl rfl (take_ofW HT_.out HW_.out (by kernel_rfl)) (fun _ _ _ h => h) (Or.inl ⟨by rfl, ?_⟩) hHeld ?_ ?_
       rotate_left
       ·rintro w' ⟨s0, s1, s2, s3⟩
        go_simp
        with_reducible rfl
       rotate_left
       ·simp only [Act.put, setIfInBounds_toArray, set_cons_zero, set_cons_succ, i64_w, i32_w]
        rfl
       refine one_ (i := 4) (N := some 32) #[true, true, true, true, true, false, false, false, false, false, false, false, false, false, false, false, false, false, false, false, false, false, false] rfl rfl (one_of HT_.out (by kernel_rfl)) (by decide) (fun K hK => ?_)
       refine goes_ Tryd.func33 (by kernel_rfl) rfl #[.slice A0_3 l0_3.length c0_3, .int .i64 0] (by rfl) rfl rfl (by (try simp only [List.map_toArray, List.map_cons, List.map_nil]); first | done | rfl | (simp only [List.length_drop, List.length_take]; rfl) | (rw [wrap_sum2 (by assumption)]; rfl)) ?_
       with_reducible refine (r5_Has.calls kj1 _ _ l0_3 0 false _ ?side1 ?side2 A14.out).mono ?_
       (case side1 => repeat (first | exact (Kd.C_below HR0_3.out HB.out) | (with_reducible refine Kd.C_alloc ?_ _) | (with_reducible refine Kd.C_drewN ?_ _) | (with_reducible refine Kd.C_drew ?_)))
       (case side2 => exact HC0_3.out)
       rintro e w' ⟨rfl, ⟨nd, rfl⟩⟩
       refine ⟨_, rfl, ?_⟩
       refine hK.out _ _ ⟨(bC BK200.out 0).trans rfl, (bC BK200.out 1).trans rfl, (bC BK200.out 2).trans rfl, (bC BK200.out 3).trans rfl⟩ (fun hHeld => ?_)
       clear hK K
       refine norm_ (a' := ?_) ?_ ?_
       rotate_left
       ·show Act.put _ (some 32) _ = _
        simp only [Act.put, setIfInBounds_toArray, set_cons_zero, set_cons_succ, i64_w, i32_w]
        rfl
       refine pure_ (i := 5) (N := some 33) (v := ?_) (a' := ?_) #[true, true, true, true, true, true, false, false, false, false, false, false, false, false, false, false, false, false, false, false, false, false, false] rfl rfl (any_of HT_.out (by kernel_rfl)) (fun _ _ _ h => h) (Or.inl ⟨by rfl, ?_⟩) ?_ ?_
       rotate_left
       ·intro w'
        go_simp
        with_reducible rfl
       rotate_left
       ·simp only [Act.put, setIfInBounds_toArray, set_cons_zero, set_cons_succ, i64_w, i32_w]
        rfl
       refine pure_ (i := 6) (N := some 34) (v := ?_) (a' := ?_) #[true, true, true, true, true, true, true, false, false, false, false, false, false, false, false, false, false, false, false, false, false, false, false] rfl rfl (any_of HT_.out (by kernel_rfl)) (fun _ _ _ h => h) (Or.inl ⟨by rfl, ?_⟩) ?_ ?_
       rotate_left
       ·intro w'
        go_simp
        with_reducible rfl
       rotate_left
       ·simp only [Act.put, setIfInBounds_toArray, set_cons_zero, set_cons_succ, i64_w, i32_w]
        rfl
       refine pure_ (i := 7) (N := some 35) (v := ?_) (a' := ?_) #[true, true, true, true, true, true, true, true, false, false, false, false, false, false, false, false, false, false, false, false, false, false, false] rfl rfl (any_of HT_.out (by kernel_rfl)) (fun _ _ _ h => h) (Or.inl ⟨by rfl, ?_⟩) ?_ ?_
       rotate_left
       ·intro w'
        go_simp
        with_reducible rfl
       rotate_left
       ·simp only [Act.put, setIfInBounds_toArray, set_cons_zero, set_cons_succ, i64_w, i32_w]
        rfl
       refine pure_ (i := 8) (N := some 36) (v := ?_) (a' := ?_) #[true, true, true, true, true, true, true, true, true, false, false, false, false, false, false, false, false, false, false, false, false, false, false] rfl rfl (any_of HT_.out (by kernel_rfl)) (fun _ _ _ h => h) (Or.inl ⟨by rfl, ?_⟩) ?_ ?_
       rotate_left
       ·intro w'
        go_simp
        with_reducible rfl
       rotate_left
       ·simp only [Act.put, setIfInBounds_toArray, set_cons_zero, set_cons_succ, i64_w, i32_w]
        rfl
       refine take_ (i := 9) (N := some 37) (v := ?_) (a' := ?_) #[true, true, true, true, true, true, true, true, true, true, false, false, false, false, false, false, false, false, false, false, false, false, false] rfl rfl (take_ofW HT_.out HW_.out (by kernel_rfl)) (fun _ _ _ h => h) (Or.inl ⟨by rfl, ?_⟩) hHeld ?_ ?_
       rotate_left
       ·rintro w' ⟨s0, s1, s2, s3⟩
        go_simp
        with_reducible rfl
       rotate_left
       ·simp only [Act.put, setIfInBounds_toArray, set_cons_zero, set_cons_succ, i64_w, i32_w]
        rfl
       refine one_ (i := 10) (N := some 38) #[true, true, true, true, true, true, true, true, true, true, true, false, false, false, false, false, false, false, false, false, false, false, false] rfl rfl (one_of HT_.out (by kernel_rfl)) (by decide) (fun K hK => ?_)
       refine goes_ Tryd.func33 (by kernel_rfl) rfl #[.slice A0_3 l0_3.length c0_3, .int .i64 1] (by rfl) rfl rfl (by (try simp only [List.map_toArray, List.map_cons, List.map_nil]); first | done | rfl | (simp only [List.length_drop, List.length_take]; rfl) | (rw [wrap_sum2 (by assumption)]; rfl)) ?_
       with_reducible refine (r5_Has.calls kj1 _ _ l0_3 1 true _ ?side1 ?side2 A19.out).mono ?_
       (case side1 => repeat (first | exact (Kd.C_below HR0_3.out bA) | (with_reducible refine Kd.C_alloc ?_ _) | (with_reducible refine Kd.C_drewN ?_ _) | (with_reducible refine Kd.C_drew ?_)))
       (case side2 => exact HC0_3.out)
       rintro e w' ⟨rfl, ⟨nd, rfl⟩⟩
       refine ⟨_, rfl, ?_⟩
       refine hK.out _ _ ⟨(bC BK200.out 0).trans rfl, (bC BK200.out 1).trans rfl, (bC BK200.out 2).trans rfl, (bC BK200.out 3).trans rfl⟩ (fun hHeld => ?_)
       clear hK K
       refine norm_ (a' := ?_) ?_ ?_
       rotate_left
       ·show Act.put _ (some 38) _ = _
        simp only [Act.put, setIfInBounds_toArray, set_cons_zero, set_cons_succ, i64_w, i32_w]
        rfl
       refine pure_ (i := 11) (N := some 39) (v := ?_) (a' := ?_) #[true, true, true, true, true, true, true, true, true, true, true, true, false, false, false, false, false, false, false, false, false, false, false] rfl rfl (any_of HT_.out (by kernel_rfl)) (fun _ _ _ h => h) (Or.inl ⟨by rfl, ?_⟩) ?_ ?_
       rotate_left
       ·intro w'
        go_simp
        with_reducible rfl
       rotate_left
       ·simp only [Act.put, setIfInBounds_toArray, set_cons_zero, set_cons_succ, i64_w, i32_w]
        rfl
       refine pure_ (i := 12) (N := some 40) (v := ?_) (a' := ?_) #[true, true, true, true, true, true, true, true, true, true, true, true, true, false, false, false, false, false, false, false, false, false, false] rfl rfl (any_of HT_.out (by kernel_rfl)) (fun _ _ _ h => h) (Or.inl ⟨by rfl, ?_⟩) ?_ ?_
       rotate_left
       ·intro w'
        go_simp
        with_reducible rfl
       rotate_left
       ·simp only [Act.put, setIfInBounds_toArray, set_cons_zero, set_cons_succ, i64_w, i32_w]
        rfl
       refine pure_ (i := 13) (N := some 41) (v := ?_) (a' := ?_) #[true, true, true, true, true, true, true, true, true, true, true, true, true, true, false, false, false, false, false, false, false, false, false] rfl rfl (any_of HT_.out (by kernel_rfl)) (fun _ _ _ h => h) (Or.inl ⟨by rfl, ?_⟩) ?_ ?_
       rotate_left
       ·intro w'
        go_simp
        with_reducible rfl
       rotate_left
       ·simp only [Act.put, setIfInBounds_toArray, set_cons_zero, set_cons_succ, i64_w, i32_w]
        rfl
       refine pure_ (i := 14) (N := some 42) (v := undef) (a' := ?_) #[true, true, true, true, true, true, true, true, true, true, true, true, true, true, true, false, false, false, false, false, false, false, false] rfl rfl (any_of HT_.out (by kernel_rfl)) (fun _ _ _ h => h) (Or.inr ⟨by rfl, rfl⟩) ?_ ?_
       rotate_left
       ·simp only [Act.put, setIfInBounds_toArray, set_cons_zero, set_cons_succ, i64_w, i32_w]
        rfl
       refine pure_ (i := 15) (N := some 43) (v := undef) (a' := ?_) #[true, true, true, true, true, true, true, true, true, true, true, true, true, true, true, true, false, false, false, false, false, false, false] rfl rfl (any_of HT_.out (by kernel_rfl)) (fun _ _ _ h => h) (Or.inr ⟨by rfl, rfl⟩) ?_ ?_
       rotate_left
       ·simp only [Act.put, setIfInBounds_toArray, set_cons_zero, set_cons_succ, i64_w, i32_w]
        rfl
       refine pure_ (i := 16) (N := some 44) (v := undef) (a' := ?_) #[true, true, true, true, true, true, true, true, true, true, true, true, true, true, true, true, true, false, false, false, false, false, false] rfl rfl (any_of HT_.out (by kernel_rfl)) (fun _ _ _ h => h) (Or.inr ⟨by rfl, rfl⟩) ?_ ?_
       rotate_left
       ·simp only [Act.put, setIfInBounds_toArray, set_cons_zero, set_cons_succ, i64_w, i32_w]
        rfl
       refine pure_ (i := 17) (N := some 45) (v := undef) (a' := ?_) #[true, true, true, true, true, true, true, true, true, true, true, true, true, true, true, true, true, true, false, false, false, false, false] rfl rfl (any_of HT_.out (by kernel_rfl)) (fun _ _ _ h => h) (Or.inr ⟨by rfl, rfl⟩) ?_ ?_
       rotate_left
       ·simp only [Act.put, setIfInBounds_toArray, set_cons_zero, set_cons_succ, i64_w, i32_w]
        rfl
       refine pure_ (i := 18) (N := some 46) (v := undef) (a' := ?_) #[true, true, true, true, true, true, true, true, true, true, true, true, true, true, true, true, true, true, true, false, false, false, false] rfl rfl (any_of HT_.out (by kernel_rfl)) (fun _ _ _ h => h) (Or.inr ⟨by rfl, rfl⟩) ?_ ?_
       rotate_left
       ·simp only [Act.put, setIfInBounds_toArray, set_cons_zero, set_cons_succ, i64_w, i32_w]
        rfl
       refine pure_ (i := 19) (N := some 47) (v := undef) (a' := ?_) #[true, true, true, true, true, true, true, true, true, true, true, true, true, true, true, true, true, true, true, true, false, false, false] rfl rfl (any_of HT_.out (by kernel_rfl)) (fun _ _ _ h => h) (Or.inr ⟨by rfl, rfl⟩) ?_ ?_
       rotate_left
       ·simp only [Act.put, setIfInBounds_toArray, set_cons_zero, set_cons_succ, i64_w, i32_w]
        rfl
       refine pure_ (i := 20) (N := some 48) (v := undef) (a' := ?_) #[true, true, true, true, true, true, true, true, true, true, true, true, true, true, true, true, true, true, true, true, true, false, false] rfl rfl (any_of HT_.out (by kernel_rfl)) (fun _ _ _ h => h) (Or.inr ⟨by rfl, rfl⟩) ?_ ?_
       rotate_left
       ·simp only [Act.put, setIfInBounds_toArray, set_cons_zero, set_cons_succ, i64_w, i32_w]
        rfl
       refine pure_ (i := 21) (N := some 49) (v := ?_) (a' := ?_) #[true, true, true, true, true, true, true, true, true, true, true, true, true, true, true, true, true, true, true, true, true, true, false] rfl rfl (any_of HT_.out (by kernel_rfl)) (fun _ _ _ h => h) (Or.inl ⟨by rfl, ?_⟩) ?_ ?_
       rotate_left
       ·intro w'
        go_simp
        with_reducible rfl
       rotate_left
       ·simp only [Act.put, setIfInBounds_toArray, set_cons_zero, set_cons_succ, i64_w, i32_w]
        rfl
       refine pure_ (i := 22) (N := some 2) (v := ?_) (a' := ?_) #[true, true, true, true, true, true, true, true, true, true, true, true, true, true, true, true, true, true, true, true, true, true, true] rfl rfl (any_of HT_.out (by kernel_rfl)) (fun _ _ _ h => h) (Or.inl ⟨by rfl, ?_⟩) ?_ ?_
       rotate_left
       ·intro w'
        go_simp
        with_reducible rfl
       rotate_left
       ·simp only [Act.put, setIfInBounds_toArray, set_cons_zero, set_cons_succ, i64_w, i32_w]
        rfl
       refine done_ (done_of HT_.out (by kernel_rfl)) ?_
       try go_wp2
       go_ret
       exact ⟨by first | rfl | (simp [errW_none, errW_some] <;> rfl) | (simp [*, errW_none, errW_some] <;> rfl), bA⟩
      ·replace c20 := Bool.eq_false_iff.mpr c20
       subst c20
       have H1 : ((r5_Total.f kj1 l0_3).bind fun t204 => ((r6_Need.f a0_2).bind fun t205 => (some (t204 == t205)))) = some r := by rw [if_neg (show ¬ (false = true) by decide)] at H; exact H
       clear H
       have H := H1
       clear H1
       replace H := Option.bind_eq_some_iff.mp H
       obtain ⟨t204, A240, H⟩ := H
       replace H : ((r6_Need.f a0_2).bind fun t205 => (some (t204 == t205))) = some r := H
       have A24 := Ax.mk A240
       clear A240
       replace H := Option.bind_eq_some_iff.mp H
       obtain ⟨t205, A250, H⟩ := H
       replace H : (some (t204 == t205)) = some r := H
       have A25 := Ax.mk A250
       clear A250
       obtain rfl := Option.some.inj H
       have hcz26_0 : wc.cell? ⟨gb200, 0, none⟩ = some (.int .u64 a0_0) := (bC BK200.out 0).trans rfl
       have hcz26_1 : wc.cell? ⟨gb200, 1, none⟩ = some (.int .i64 a0_1) := (bC BK200.out 1).trans rfl
       have hcz26_2 : wc.cell? ⟨gb200, 2, none⟩ = some (.int .i64 a0_2) := (bC BK200.out 2).trans rfl
       have hcz26_3 : wc.cell? ⟨gb200, 3, none⟩ = some (.slice A0_3 l0_3.length c0_3) := (bC BK200.out 3).trans rfl
       have hfz26_0 := bF BK200.out 0
       have hfz26_1 := bF BK200.out 1
       have hfz26_2 := bF BK200.out 2
       have hfz26_3 := bF BK200.out 3
       try go_wp2_with (first | ((with_reducible refine gate_callee (f := 32) rfl ?_); refine goesL_ (some 27) rfl rfl Tryd.func32 (by kernel_rfl) rfl #[.slice A0_3 l0_3.length c0_3, .int .i64 a0_1] rfl (by (try simp only [List.map_toArray, List.map_cons, List.map_nil]); first | done | rfl | (simp only [List.length_drop, List.length_take]; rfl) | (rw [wrap_sum2 (by assumption)]; rfl)) ?_; (with_reducible refine (r5_Right.calls kj1 _ _ l0_3 a0_1 true _ ?side1 ?side2 A12.out).mono ?_); (case side1 => repeat (first | exact (Kd.C_below HR0_3.out HB.out) | (with_reducible refine Kd.C_alloc ?_ _) | (with_reducible refine Kd.C_drewN ?_ _) | (with_reducible refine Kd.C_drew ?_))); (case side2 => exact HC0_3.out); rintro e w27 ⟨rfl, hb⟩; refine ⟨_, rfl, ?_⟩; have n0_ := Ax.mk (bB (bT BK200.out) hb); have n1_ := Ax.mk (bP bA hb); clear BK200; clear HB; have BK200 := n0_; have HB := n1_; clear n0_ n1_; (try clear hb); (try clear hb2); (try clear hk); (try clear hi)))
       have n0_ := Ax.mk (blk_drew BK200.out)
       have n1_ := Ax.mk (below_drew1 HB.out)
       clear BK200
       clear HB
       have BK200 := n0_
       have HB := n1_
       clear n0_ n1_
       refine start_ (n := 23) (S := fun w' => w'.cell? ⟨gb200, 0, none⟩ = some (.int .u64 a0_0) ∧ w'.cell? ⟨gb200, 1, none⟩ = some (.int .i64 a0_1) ∧ w'.cell? ⟨gb200, 2, none⟩ = some (.int .i64 a0_2) ∧ w'.cell? ⟨gb200, 3, none⟩ = some (.slice A0_3 l0_3.length c0_3)) (ds := []) #[false, false, false, false, false, false, false, false, false, false, false, false, false, false, false, false, false, false, false, false, false, false, false] (by kernel_rfl) rfl rfl ⟨(bC BK200.out 0).trans rfl, (bC BK200.out 1).trans rfl, (bC BK200.out 2).trans rfl, (bC BK200.out 3).trans rfl⟩ (fun hHeld => ?_); refine with_tabW r6_Right.tab4 r6_Right.bits4 (fun HT_ HW_ => ?_)
       generalize w27.drew = w28 at BK200 HB hHeld ⊢
       refine pure_ (i := 0) (N := some 28) (v := ?_) (a' := ?_) #[true, false, false, false, false, false, false, false, false, false, false, false, false, false, false, false, false, false, false, false, false, false, false] rfl rfl (any_of HT_.out (by kernel_rfl)) (fun _ _ _ h => h) (Or.inl ⟨by rfl, ?_⟩) ?_ ?_
       rotate_left
       ·intro w'
        go_simp
        with_reducible rfl
       rotate_left
       ·simp only [Act.put, setIfInBounds_toArray, set_cons_zero, set_cons_succ, i64_w, i32_w]
        rfl
       refine pure_ (i := 1) (N := some 29) (v := ?_) (a' := ?_) #[true, true, false, false, false, false, false, false, false, false, false, false, false, false, false, false, false, false, false, false, false, false, false] rfl rfl (any_of HT_.out (by kernel_rfl)) (fun _ _ _ h => h) (Or.inl ⟨by rfl, ?_⟩) ?_ ?_
       rotate_left
       ·intro w'
        go_simp
        with_reducible rfl
       rotate_left
       ·simp only [Act.put, setIfInBounds_toArray, set_cons_zero, set_cons_succ, i64_w, i32_w]
        rfl
       refine pure_ (i := 2) (N := some 30) (v := ?_) (a' := ?_) #[true, true, true, false, false, false, false, false, false, false, false, false, false, false, false, false, false, false, false, false, false, false, false] rfl rfl (any_of HT_.out (by kernel_rfl)) (fun _ _ _ h => h) (Or.inl ⟨by rfl, ?_⟩) ?_ ?_
       rotate_left
       ·intro w'
        go_simp
        with_reducible rfl
       rotate_left
       ·simp only [Act.put, setIfInBounds_toArray, set_cons_zero, set_cons_succ, i64_w, i32_w]
        rfl
       refine take_ (i := 3) (N := some 31) (v := ?_) (a' := ?_) #[true, true, true, true, false, false, false, false, false, false, false, false, false, false, false, false, false, false, false, false, false, false, false] rfl rfl (take_ofW HT_.out HW_.out (by kernel_rfl)) (fun _ _ _ h => h) (Or.inl ⟨by rfl, ?_⟩) hHeld ?_ ?_
       rotate_left
       ·rintro w' ⟨s0, s1, s2, s3⟩
        go_simp
        with_reducible rfl
       rotate_left
       ·simp only [Act.put, setIfInBounds_toArray, set_cons_zero, set_cons_succ, i64_w, i32_w]
        rfl
       refine one_ (i := 4) (N := some 32) #[true, true, true, true, true, false, false, false, false, false, false, false, false, false, false, false, false, false, false, false, false, false, false] rfl rfl (one_of HT_.out (by kernel_rfl)) (by decide) (fun K hK => ?_)
       refine goes_ Tryd.func33 (by kernel_rfl) rfl #[.slice A0_3 l0_3.length c0_3, .int .i64 0] (by rfl) rfl rfl (by (try simp only [List.map_toArray, List.map_cons, List.map_nil]); first | done | rfl | (simp only [List.length_drop, List.length_take]; rfl) | (rw [wrap_sum2 (by assumption)]; rfl)) ?_
       with_reducible refine (r5_Has.calls kj1 _ _ l0_3 0 false _ ?side1 ?side2 A14.out).mono ?_
       (case side1 => repeat (first | exact (Kd.C_below HR0_3.out HB.out) | (with_reducible refine Kd.C_alloc ?_ _) | (with_reducible refine Kd.C_drewN ?_ _) | (with_reducible refine Kd.C_drew ?_)))
       (case side2 => exact HC0_3.out)
       rintro e w' ⟨rfl, ⟨nd, rfl⟩⟩
       refine ⟨_, rfl, ?_⟩
       refine hK.out _ _ ⟨(bC BK200.out 0).trans rfl, (bC BK200.out 1).trans rfl, (bC BK200.out 2).trans rfl, (bC BK200.out 3).trans rfl⟩ (fun hHeld => ?_)
       clear hK K
       refine norm_ (a' := ?_) ?_ ?_
       rotate_left
       ·show Act.put _ (some 32) _ = _
        simp only [Act.put, setIfInBounds_toArray, set_cons_zero, set_cons_succ, i64_w, i32_w]
        rfl
       refine pure_ (i := 5) (N := some 33) (v := ?_) (a' := ?_) #[true, true, true, true, true, true, false, false, false, false, false, false, false, false, false, false, false, false, false, false, false, false, false] rfl rfl (any_of HT_.out (by kernel_rfl)) (fun _ _ _ h => h) (Or.inl ⟨by rfl, ?_⟩) ?_ ?_
       rotate_left
       ·intro w'
        go_simp
        with_reducible rfl
       rotate_left
       ·simp only [Act.put, setIfInBounds_toArray, set_cons_zero, set_cons_succ, i64_w, i32_w]
        rfl
       refine pure_ (i := 6) (N := some 34) (v := ?_) (a' := ?_) #[true, true, true, true, true, true, true, false, false, false, false, false, false, false, false, false, false, false, false, false, false, false, false] rfl rfl (any_of HT_.out (by kernel_rfl)) (fun _ _ _ h => h) (Or.inl ⟨by rfl, ?_⟩) ?_ ?_
       rotate_left
       ·intro w'
        go_simp
        with_reducible rfl
       rotate_left
       ·simp only [Act.put, setIfInBounds_toArray, set_cons_zero, set_cons_succ, i64_w, i32_w]
        rfl
       refine pure_ (i := 7) (N := some 35) (v := ?_) (a' := ?_) #[true, true, true, true, true, true, true, true, false, false, false, false, false, false, false, false, false, false, false, false, false, false, false] rfl rfl (any_of HT_.out (by kernel_rfl)) (fun _ _ _ h => h) (Or.inl ⟨by rfl, ?_⟩) ?_ ?_
       rotate_left
       ·intro w'
        go_simp
        with_reducible rfl
       rotate_left
       ·simp only [Act.put, setIfInBounds_toArray, set_cons_zero, set_cons_succ, i64_w, i32_w]
        rfl
       refine pure_ (i := 8) (N := some 36) (v := ?_) (a' := ?_) #[true, true, true, true, true, true, true, true, true, false, false, false, false, false, false, false, false, false, false, false, false, false, false] rfl rfl (any_of HT_.out (by kernel_rfl)) (fun _ _ _ h => h) (Or.inl ⟨by rfl, ?_⟩) ?_ ?_
       rotate_left
       ·intro w'
        go_simp
        with_reducible rfl
       rotate_left
       ·simp only [Act.put, setIfInBounds_toArray, set_cons_zero, set_cons_succ, i64_w, i32_w]
        rfl
       refine take_ (i := 9) (N := some 37) (v := ?_) (a' := ?_) #[true, true, true, true, true, true, true, true, true, true, false, false, false, false, false, false, false, false, false, false, false, false, false] rfl rfl (take_ofW HT_.out HW_.out (by kernel_rfl)) (fun _ _ _ h => h) (Or.inl ⟨by rfl, ?_⟩) hHeld ?_ ?_
       rotate_left
       ·rintro w' ⟨s0, s1, s2, s3⟩
        go_simp
        with_reducible rfl
       rotate_left
       ·simp only [Act.put, setIfInBounds_toArray, set_cons_zero, set_cons_succ, i64_w, i32_w]
        rfl
       refine one_ (i := 10) (N := some 38) #[true, true, true, true, true, true, true, true, true, true, true, false, false, false, false, false, false, false, false, false, false, false, false] rfl rfl (one_of HT_.out (by kernel_rfl)) (by decide) (fun K hK => ?_)
       refine goes_ Tryd.func33 (by kernel_rfl) rfl #[.slice A0_3 l0_3.length c0_3, .int .i64 1] (by rfl) rfl rfl (by (try simp only [List.map_toArray, List.map_cons, List.map_nil]); first | done | rfl | (simp only [List.length_drop, List.length_take]; rfl) | (rw [wrap_sum2 (by assumption)]; rfl)) ?_
       with_reducible refine (r5_Has.calls kj1 _ _ l0_3 1 false _ ?side1 ?side2 A19.out).mono ?_
       (case side1 => repeat (first | exact (Kd.C_below HR0_3.out bA) | (with_reducible refine Kd.C_alloc ?_ _) | (with_reducible refine Kd.C_drewN ?_ _) | (with_reducible refine Kd.C_drew ?_)))
       (case side2 => exact HC0_3.out)
       rintro e w' ⟨rfl, ⟨nd, rfl⟩⟩
       refine ⟨_, rfl, ?_⟩
       refine hK.out _ _ ⟨(bC BK200.out 0).trans rfl, (bC BK200.out 1).trans rfl, (bC BK200.out 2).trans rfl, (bC BK200.out 3).trans rfl⟩ (fun hHeld => ?_)
       clear hK K
       refine norm_ (a' := ?_) ?_ ?_
       rotate_left
       ·show Act.put _ (some 38) _ = _
        simp only [Act.put, setIfInBounds_toArray, set_cons_zero, set_cons_succ, i64_w, i32_w]
        rfl
       refine pure_ (i := 11) (N := some 39) (v := ?_) (a' := ?_) #[true, true, true, true, true, true, true, true, true, true, true, true, false, false, false, false, false, false, false, false, false, false, false] rfl rfl (any_of HT_.out (by kernel_rfl)) (fun _ _ _ h => h) (Or.inl ⟨by rfl, ?_⟩) ?_ ?_
       rotate_left
       ·intro w'
        go_simp
        with_reducible rfl
       rotate_left
       ·simp only [Act.put, setIfInBounds_toArray, set_cons_zero, set_cons_succ, i64_w, i32_w]
        rfl
       refine pure_ (i := 12) (N := some 40) (v := ?_) (a' := ?_) #[true, true, true, true, true, true, true, true, true, true, true, true, true, false, false, false, false, false, false, false, false, false, false] rfl rfl (any_of HT_.out (by kernel_rfl)) (fun _ _ _ h => h) (Or.inl ⟨by rfl, ?_⟩) ?_ ?_
       rotate_left
       ·intro w'
        go_simp
        with_reducible rfl
       rotate_left
       ·simp only [Act.put, setIfInBounds_toArray, set_cons_zero, set_cons_succ, i64_w, i32_w]
        rfl
       refine pure_ (i := 13) (N := some 41) (v := ?_) (a' := ?_) #[true, true, true, true, true, true, true, true, true, true, true, true, true, true, false, false, false, false, false, false, false, false, false] rfl rfl (any_of HT_.out (by kernel_rfl)) (fun _ _ _ h => h) (Or.inl ⟨by rfl, ?_⟩) ?_ ?_
       rotate_left
       ·intro w'
        go_simp
        with_reducible rfl
       rotate_left
       ·simp only [Act.put, setIfInBounds_toArray, set_cons_zero, set_cons_succ, i64_w, i32_w]
        rfl
       refine pure_ (i := 14) (N := some 42) (v := ?_) (a' := ?_) #[true, true, true, true, true, true, true, true, true, true, true, true, true, true, true, false, false, false, false, false, false, false, false] rfl rfl (any_of HT_.out (by kernel_rfl)) (fun _ _ _ h => h) (Or.inl ⟨by rfl, ?_⟩) ?_ ?_
       rotate_left
       ·intro w'
        go_simp
        with_reducible rfl
       rotate_left
       ·simp only [Act.put, setIfInBounds_toArray, set_cons_zero, set_cons_succ, i64_w, i32_w]
        rfl
       refine pure_ (i := 17) (N := some 45) (v := ?_) (a' := ?_) #[true, true, true, true, true, true, true, true, true, true, true, true, true, true, true, false, false, true, false, false, false, false, false] rfl rfl (any_of HT_.out (by kernel_rfl)) (fun _ _ _ h => h) (Or.inl ⟨by rfl, ?_⟩) ?_ ?_
       rotate_left
       ·intro w'
        go_simp
        with_reducible rfl
       rotate_left
       ·simp only [Act.put, setIfInBounds_toArray, set_cons_zero, set_cons_succ, i64_w, i32_w]
        rfl
       refine take_ (i := 15) (N := some 43) (v := ?_) (a' := ?_) #[true, true, true, true, true, true, true, true, true, true, true, true, true, true, true, true, false, true, false, false, false, false, false] rfl rfl (take_ofW HT_.out HW_.out (by kernel_rfl)) (fun _ _ _ h => h) (Or.inl ⟨by rfl, ?_⟩) hHeld ?_ ?_
       rotate_left
       ·rintro w' ⟨s0, s1, s2, s3⟩
        go_simp
        with_reducible rfl
       rotate_left
       ·simp only [Act.put, setIfInBounds_toArray, set_cons_zero, set_cons_succ, i64_w, i32_w]
        rfl
       refine take_ (i := 18) (N := some 46) (v := ?_) (a' := ?_) #[true, true, true, true, true, true, true, true, true, true, true, true, true, true, true, true, false, true, true, false, false, false, false] rfl rfl (take_ofW HT_.out HW_.out (by kernel_rfl)) (fun _ _ _ h => h) (Or.inl ⟨by rfl, ?_⟩) hHeld ?_ ?_
       rotate_left
       ·rintro w' ⟨s0, s1, s2, s3⟩
        go_simp
        with_reducible rfl
       rotate_left
       ·simp only [Act.put, setIfInBounds_toArray, set_cons_zero, set_cons_succ, i64_w, i32_w]
        rfl
       refine one_ (i := 16) (N := some 44) #[true, true, true, true, true, true, true, true, true, true, true, true, true, true, true, true, true, true, true, false, false, false, false] rfl rfl (one_of HT_.out (by kernel_rfl)) (by decide) (fun K hK => ?_)
       refine goes_ Tryd.func34 (by kernel_rfl) rfl #[.slice A0_3 l0_3.length c0_3] (by rfl) rfl rfl (by (try simp only [List.map_toArray, List.map_cons, List.map_nil]); first | done | rfl | (simp only [List.length_drop, List.length_take]; rfl) | (rw [wrap_sum2 (by assumption)]; rfl)) ?_
       with_reducible refine (r5_Total.calls kj1 _ _ l0_3 t204 _ ?side1 ?side2 A24.out).mono ?_
       (case side1 => repeat (first | exact (Kd.C_below HR0_3.out bA) | (with_reducible refine Kd.C_alloc ?_ _) | (with_reducible refine Kd.C_drewN ?_ _) | (with_reducible refine Kd.C_drew ?_)))
       (case side2 => exact HC0_3.out)
       rintro e w29 ⟨rfl, hb⟩
       refine ⟨_, rfl, ?_⟩
       have n0_ := Ax.mk (bB (bT BK200.out) hb)
       have n1_ := Ax.mk (bP bA hb)
       clear BK200
       clear HB
       have BK200 := n0_
       have HB := n1_
       clear n0_ n1_
       (try clear hb)
       (try clear hb2)
       (try clear hk)
       (try clear hi)
       refine hK.out _ _ ⟨(bC BK200.out 0).trans rfl, (bC BK200.out 1).trans rfl, (bC BK200.out 2).trans rfl, (bC BK200.out 3).trans rfl⟩ (fun hHeld => ?_)
       clear hK K
       refine norm_ (a' := ?_) ?_ ?_
       rotate_left
       ·show Act.put _ (some 44) _ = _
        simp only [Act.put, setIfInBounds_toArray, set_cons_zero, set_cons_succ, i64_w, i32_w]
        rfl
       refine one_ (i := 19) (N := some 47) #[true, true, true, true, true, true, true, true, true, true, true, true, true, true, true, true, true, true, true, true, false, false, false] rfl rfl (one_of HT_.out (by kernel_rfl)) (by decide) (fun K hK => ?_)
       refine goes_ Tryd.func35 (by kernel_rfl) rfl #[.int .i64 a0_2] (by rfl) rfl rfl (by (try simp only [List.map_toArray, List.map_cons, List.map_nil]); first | done | rfl | (simp only [List.length_drop, List.length_take]; rfl) | (rw [wrap_sum2 (by assumption)]; rfl)) ?_
       with_reducible refine (r6_Need.calls a0_2 t205 _ A25.out).mono ?_
       rintro e w' ⟨rfl, ⟨nd, rfl⟩⟩
       refine ⟨_, rfl, ?_⟩
       refine hK.out _ _ ⟨(bC BK200.out 0).trans rfl, (bC BK200.out 1).trans rfl, (bC BK200.out 2).trans rfl, (bC BK200.out 3).trans rfl⟩ (fun hHeld => ?_)
       clear hK K
       refine norm_ (a' := ?_) ?_ ?_
       rotate_left
       ·show Act.put _ (some 47) _ = _
        simp only [Act.put, setIfInBounds_toArray, set_cons_zero, set_cons_succ, i64_w, i32_w]
        rfl
       refine pure_ (i := 20) (N := some 48) (v := ?_) (a' := ?_) #[true, true, true, true, true, true, true, true, true, true, true, true, true, true, true, true, true, true, true, true, true, false, false] rfl rfl (any_of HT_.out (by kernel_rfl)) (fun _ _ _ h => h) (Or.inl ⟨by rfl, ?_⟩) ?_ ?_
       rotate_left
       ·intro w'
        go_simp
        with_reducible rfl
       rotate_left
       ·simp only [Act.put, setIfInBounds_toArray, set_cons_zero, set_cons_succ, i64_w, i32_w]
        rfl
       refine pure_ (i := 21) (N := some 49) (v := ?_) (a' := ?_) #[true, true, true, true, true, true, true, true, true, true, true, true, true, true, true, true, true, true, true, true, true, true, false] rfl rfl (any_of HT_.out (by kernel_rfl)) (fun _ _ _ h => h) (Or.inl ⟨by rfl, ?_⟩) ?_ ?_
       rotate_left
       ·intro w'
        go_simp
        with_reducible rfl
       rotate_left
       ·simp only [Act.put, setIfInBounds_toArray, set_cons_zero, set_cons_succ, i64_w, i32_w]
        rfl
       refine pure_ (i := 22) (N := some 2) (v := ?_) (a' := ?_) #[true, true, true, true, true, true, true, true, true, true, true, true, true, true, true, true, true, true, true, true, true, true, true] rfl rfl (any_of HT_.out (by kernel_rfl)) (fun _ _ _ h => h) (Or.inl ⟨by rfl, ?_⟩) ?_ ?_
       rotate_left
       ·intro w'
        go_simp
        with_reducible rfl
       rotate_left
       ·simp only [Act.put, setIfInBounds_toArray, set_cons_zero, set_cons_succ, i64_w, i32_w]
        rfl
       refine done_ (done_of HT_.out (by kernel_rfl)) ?_
       try go_wp2
       go_ret
       exact ⟨by first | rfl | (simp [errW_none, errW_some] <;> rfl) | (simp [*, errW_none, errW_some] <;> rfl), bA⟩
    ·replace c13 := Bool.eq_false_iff.mpr c13
     subst c13
     have H1 : (some false) = some r := by rw [if_neg (show ¬ (false = true) by decide)] at H; exact H
     clear H
     have H := H1
     clear H1
     obtain rfl := Option.some.inj H
     have hcz30_0 : wc.cell? ⟨gb200, 0, none⟩ = some (.int .u64 a0_0) := (bC BK200.out 0).trans rfl
     have hcz30_1 : wc.cell? ⟨gb200, 1, none⟩ = some (.int .i64 a0_1) := (bC BK200.out 1).trans rfl
     have hcz30_2 : wc.cell? ⟨gb200, 2, none⟩ = some (.int .i64 a0_2) := (bC BK200.out 2).trans rfl
     have hcz30_3 : wc.cell? ⟨gb200, 3, none⟩ = some (.slice A0_3 l0_3.length c0_3) := (bC BK200.out 3).trans rfl
     have hfz30_0 := bF BK200.out 0
     have hfz30_1 := bF BK200.out 1
     have hfz30_2 := bF BK200.out 2
     have hfz30_3 := bF BK200.out 3
     try go_wp2_with (first | ((with_reducible refine gate_callee (f := 32) rfl ?_); refine goesL_ (some 27) rfl rfl Tryd.func32 (by kernel_rfl) rfl #[.slice A0_3 l0_3.length c0_3, .int .i64 a0_1] rfl (by (try simp only [List.map_toArray, List.map_cons, List.map_nil]); first | done | rfl | (simp only [List.length_drop, List.length_take]; rfl) | (rw [wrap_sum2 (by assumption)]; rfl)) ?_; (with_reducible refine (r5_Right.calls kj1 _ _ l0_3 a0_1 false _ ?side1 ?side2 A12.out).mono ?_); (case side1 => repeat (first | exact (Kd.C_below HR0_3.out HB.out) | (with_reducible refine Kd.C_alloc ?_ _) | (with_reducible refine Kd.C_drewN ?_ _) | (with_reducible refine Kd.C_drew ?_))); (case side2 => exact HC0_3.out); rintro e w31 ⟨rfl, hb⟩; refine ⟨_, rfl, ?_⟩; have n0_ := Ax.mk (bB (bT BK200.out) hb); have n1_ := Ax.mk (bP bA hb); clear BK200; clear HB; have BK200 := n0_; have HB := n1_; clear n0_ n1_; (try clear hb); (try clear hb2); (try clear hk); (try clear hi)))
     have n0_ := Ax.mk (blk_drew BK200.out)
     have n1_ := Ax.mk (below_drew1 HB.out)
     clear BK200
     clear HB
     have BK200 := n0_
     have HB := n1_
     clear n0_ n1_
     refine start_ (n := 23) (S := fun w' => True) (ds := []) #[false, false, false, false, false, false, false, false, false, false, false, false, false, false, false, false, false, false, false, false, false, false, false] (by kernel_rfl) rfl rfl trivial (fun hHeld => ?_); refine with_tabW r6_Right.tab4 r6_Right.bits4 (fun HT_ HW_ => ?_)
     generalize w31.drew = w32 at BK200 HB hHeld ⊢
     refine pure_ (i := 0) (N := some 28) (v := ?_) (a' := ?_) #[true, false, false, false, false, false, false, false, false, false, false, false, false, false, false, false, false, false, false, false, false, false, false] rfl rfl (any_of HT_.out (by kernel_rfl)) (fun _ _ _ h => h) (Or.inl ⟨by rfl, ?_⟩) ?_ ?_
     rotate_left
     ·intro w'
      go_simp
      with_reducible rfl
     rotate_left
     ·simp only [Act.put, setIfInBounds_toArray, set_cons_zero, set_cons_succ, i64_w, i32_w]
      rfl
     refine pure_ (i := 1) (N := some 29) (v := ?_) (a' := ?_) #[true, true, false, false, false, false, false, false, false, false, false, false, false, false, false, false, false, false, false, false, false, false, false] rfl rfl (any_of HT_.out (by kernel_rfl)) (fun _ _ _ h => h) (Or.inl ⟨by rfl, ?_⟩) ?_ ?_
     rotate_left
     ·intro w'
      go_simp
      with_reducible rfl
     rotate_left
     ·simp only [Act.put, setIfInBounds_toArray, set_cons_zero, set_cons_succ, i64_w, i32_w]
      rfl
     refine pure_ (i := 2) (N := some 30) (v := undef) (a' := ?_) #[true, true, true, false, false, false, false, false, false, false, false, false, false, false, false, false, false, false, false, false, false, false, false] rfl rfl (any_of HT_.out (by kernel_rfl)) (fun _ _ _ h => h) (Or.inr ⟨by rfl, rfl⟩) ?_ ?_
     rotate_left
     ·simp only [Act.put, setIfInBounds_toArray, set_cons_zero, set_cons_succ, i64_w, i32_w]
      rfl
     refine pure_ (i := 3) (N := some 31) (v := undef) (a' := ?_) #[true, true, true, true, false, false, false, false, false, false, false, false, false, false, false, false, false, false, false, false, false, false, false] rfl rfl (any_of HT_.out (by kernel_rfl)) (fun _ _ _ h => h) (Or.inr ⟨by rfl, rfl⟩) ?_ ?_
     rotate_left
     ·simp only [Act.put, setIfInBounds_toArray, set_cons_zero, set_cons_succ, i64_w, i32_w]
      rfl
     refine pure_ (i := 4) (N := some 32) (v := undef) (a' := ?_) #[true, true, true, true, true, false, false, false, false, false, false, false, false, false, false, false, false, false, false, false, false, false, false] rfl rfl (any_of HT_.out (by kernel_rfl)) (fun _ _ _ h => h) (Or.inr ⟨by rfl, rfl⟩) ?_ ?_
     rotate_left
     ·simp only [Act.put, setIfInBounds_toArray, set_cons_zero, set_cons_succ, i64_w, i32_w]
      rfl
     refine pure_ (i := 5) (N := some 33) (v := undef) (a' := ?_) #[true, true, true, true, true, true, false, false, false, false, false, false, false, false, false, false, false, false, false, false, false, false, false] rfl rfl (any_of HT_.out (by kernel_rfl)) (fun _ _ _ h => h) (Or.inr ⟨by rfl, rfl⟩) ?_ ?_
     rotate_left
     ·simp only [Act.put, setIfInBounds_toArray, set_cons_zero, set_cons_succ, i64_w, i32_w]
      rfl
     refine pure_ (i := 6) (N := some 34) (v := ?_) (a' := ?_) #[true, true, true, true, true, true, true, false, false, false, false, false, false, false, false, false, false, false, false, false, false, false, false] rfl rfl (any_of HT_.out (by kernel_rfl)) (fun _ _ _ h => h) (Or.inl ⟨by rfl, ?_⟩) ?_ ?_
     rotate_left
     ·intro w'
      go_simp
      with_reducible rfl
     rotate_left
     ·simp only [Act.put, setIfInBounds_toArray, set_cons_zero, set_cons_succ, i64_w, i32_w]
      rfl
     refine pure_ (i := 7) (N := some 35) (v := ?_) (a' := ?_) #[true, true, true, true, true, true, true, true, false, false, false, false, false, false, false, false, false, false, false, false, false, false, false] rfl rfl (any_of HT_.out (by kernel_rfl)) (fun _ _ _ h => h) (Or.inl ⟨by rfl, ?_⟩) ?_ ?_
     rotate_left
     ·intro w'
      go_simp
      with_reducible rfl
     rotate_left
     ·simp only [Act.put, setIfInBounds_toArray, set_cons_zero, set_cons_succ, i64_w, i32_w]
      rfl
     refine pure_ (i := 8) (N := some 36) (v := undef) (a' := ?_) #[true, true, true, true, true, true, true, true, true, false, false, false, false, false, false, false, false, false, false, false, false, false, false] rfl rfl (any_of HT_.out (by kernel_rfl)) (fun _ _ _ h => h) (Or.inr ⟨by rfl, rfl⟩) ?_ ?_
     rotate_left
     ·simp only [Act.put, setIfInBounds_toArray, set_cons_zero, set_cons_succ, i64_w, i32_w]
      rfl
     refine pure_ (i := 9) (N := some 37) (v := undef) (a' := ?_) #[true, true, true, true, true, true, true, true, true, true, false, false, false, false, false, false, false, false, false, false, false, false, false] rfl rfl (any_of HT_.out (by kernel_rfl)) (fun _ _ _ h => h) (Or.inr ⟨by rfl, rfl⟩) ?_ ?_
     rotate_left
     ·simp only [Act.put, setIfInBounds_toArray, set_cons_zero, set_cons_succ, i64_w, i32_w]
      rfl
     refine pure_ (i := 10) (N := some 38) (v := undef) (a' := ?_) #[true, true, true, true, true, true, true, true, true, true, true, false, false, false, false, false, false, false, false, false, false, false, false] rfl rfl (any_of HT_.out (by kernel_rfl)) (fun _ _ _ h => h) (Or.inr ⟨by rfl, rfl⟩) ?_ ?_
     rotate_left
     ·simp only [Act.put, setIfInBounds_toArray, set_cons_zero, set_cons_succ, i64_w, i32_w]
      rfl
     refine pure_ (i := 11) (N := some 39) (v := undef) (a' := ?_) #[true, true, true, true, true, true, true, true, true, true, true, true, false, false, false, false, false, false, false, false, false, false, false] rfl rfl (any_of HT_.out (by kernel_rfl)) (fun _ _ _ h => h) (Or.inr ⟨by rfl, rfl⟩) ?_ ?_
     rotate_left
     ·simp only [Act.put, setIfInBounds_toArray, set_cons_zero, set_cons_succ, i64_w, i32_w]
      rfl
     refine pure_ (i := 12) (N := some 40) (v := ?_) (a' := ?_) #[true, true, true, true, true, true, true, true, true, true, true, true, true, false, false, false, false, false, false, false, false, false, false] rfl rfl (any_of HT_.out (by kernel_rfl)) (fun _ _ _ h => h) (Or.inl ⟨by rfl, ?_⟩) ?_ ?_
     rotate_left
     ·intro w'
      go_simp
      with_reducible rfl
     rotate_left
     ·simp only [Act.put, setIfInBounds_toArray, set_cons_zero, set_cons_succ, i64_w, i32_w]
      rfl
     refine pure_ (i := 13) (N := some 41) (v := ?_) (a' := ?_) #[true, true, true, true, true, true, true, true, true, true, true, true, true, true, false, false, false, false, false, false, false, false, false] rfl rfl (any_of HT_.out (by kernel_rfl)) (fun _ _ _ h => h) (Or.inl ⟨by rfl, ?_⟩) ?_ ?_
     rotate_left
     ·intro w'
      go_simp
      with_reducible rfl
     rotate_left
     ·simp only [Act.put, setIfInBounds_toArray, set_cons_zero, set_cons_succ, i64_w, i32_w]
      rfl
     refine pure_ (i := 14) (N := some 42) (v := undef) (a' := ?_) #[true, true, true, true, true, true, true, true, true, true, true, true, true, true, true, false, false, false, false, false, false, false, false] rfl rfl (any_of HT_.out (by kernel_rfl)) (fun _ _ _ h => h) (Or.inr ⟨by rfl, rfl⟩) ?_ ?_
     rotate_left
     ·simp only [Act.put, setIfInBounds_toArray, set_cons_zero, set_cons_succ, i64_w, i32_w]
      rfl
     refine pure_ (i := 15) (N := some 43) (v := undef) (a' := ?_) #[true, true, true, true, true, true, true, true, true, true, true, true, true, true, true, true, false, false, false, false, false, false, false] rfl rfl (any_of HT_.out (by kernel_rfl)) (fun _ _ _ h => h) (Or.inr ⟨by rfl, rfl⟩) ?_ ?_
     rotate_left
     ·simp only [Act.put, setIfInBounds_toArray, set_cons_zero, set_cons_succ, i64_w, i32_w]
      rfl
     refine pure_ (i := 16) (N := some 44) (v := undef) (a' := ?_) #[true, true, true, true, true, true, true, true, true, true, true, true, true, true, true, true, true, false, false, false, false, false, false] rfl rfl (any_of HT_.out (by kernel_rfl)) (fun _ _ _ h => h) (Or.inr ⟨by rfl, rfl⟩) ?_ ?_
     rotate_left
     ·simp only [Act.put, setIfInBounds_toArray, set_cons_zero, set_cons_succ, i64_w, i32_w]
      rfl
     refine pure_ (i := 17) (N := some 45) (v := undef) (a' := ?_) #[true, true, true, true, true, true, true, true, true, true, true, true, true, true, true, true, true, true, false, false, false, false, false] rfl rfl (any_of HT_.out (by kernel_rfl)) (fun _ _ _ h => h) (Or.inr ⟨by rfl, rfl⟩) ?_ ?_
     rotate_left
     ·simp only [Act.put, setIfInBounds_toArray, set_cons_zero, set_cons_succ, i64_w, i32_w]
      rfl
     refine pure_ (i := 18) (N := some 46) (v := undef) (a' := ?_) #[true, true, true, true, true, true, true, true, true, true, true, true, true, true, true, true, true, true, true, false, false, false, false] rfl rfl (any_of HT_.out (by kernel_rfl)) (fun _ _ _ h => h) (Or.inr ⟨by rfl, rfl⟩) ?_ ?_
     rotate_left
     ·simp only [Act.put, setIfInBounds_toArray, set_cons_zero, set_cons_succ, i64_w, i32_w]
      rfl
     refine pure_ (i := 19) (N := some 47) (v := undef) (a' := ?_) #[true, true, true, true, true, true, true, true, true, true, true, true, true, true, true, true, true, true, true, true, false, false, false] rfl rfl (any_of HT_.out (by kernel_rfl)) (fun _ _ _ h => h) (Or.inr ⟨by rfl, rfl⟩) ?_ ?_
     rotate_left
     ·simp only [Act.put, setIfInBounds_toArray, set_cons_zero, set_cons_succ, i64_w, i32_w]
      rfl
     refine pure_ (i := 20) (N := some 48) (v := undef) (a' := ?_) #[true, true, true, true, true, true, true, true, true, true, true, true, true, true, true, true, true, true, true, true, true, false, false] rfl rfl (any_of HT_.out (by kernel_rfl)) (fun _ _ _ h => h) (Or.inr ⟨by rfl, rfl⟩) ?_ ?_
     rotate_left
     ·simp only [Act.put, setIfInBounds_toArray, set_cons_zero, set_cons_succ, i64_w, i32_w]
      rfl
     refine pure_ (i := 21) (N := some 49) (v := ?_) (a' := ?_) #[true, true, true, true, true, true, true, true, true, true, true, true, true, true, true, true, true, true, true, true, true, true, false] rfl rfl (any_of HT_.out (by kernel_rfl)) (fun _ _ _ h => h) (Or.inl ⟨by rfl, ?_⟩) ?_ ?_
     rotate_left
     ·intro w'
      go_simp
      with_reducible rfl
     rotate_left
     ·simp only [Act.put, setIfInBounds_toArray, set_cons_zero, set_cons_succ, i64_w, i32_w]
      rfl
     refine pure_ (i := 22) (N := some 2) (v := ?_) (a' := ?_) #[true, true, true, true, true, true, true, true, true, true, true, true, true, true, true, true, true, true, true, true, true, true, true] rfl rfl (any_of HT_.out (by kernel_rfl)) (fun _ _ _ h => h) (Or.inl ⟨by rfl, ?_⟩) ?_ ?_
     rotate_left
     ·intro w'
      go_simp
      with_reducible rfl
     rotate_left
     ·simp only [Act.put, setIfInBounds_toArray, set_cons_zero, set_cons_succ, i64_w, i32_w]
      rfl
     refine done_ (done_of HT_.out (by kernel_rfl)) ?_
     try go_wp2
     go_ret
     exact ⟨by first | rfl | (simp [errW_none, errW_some] <;> rfl) | (simp [*, errW_none, errW_some] <;> rfl), bA⟩
end Go.Proofs.YtcgejogmiglalaaDoor.Fn
end
section
namespace Go.Proofs.YtcgejogmiglalaaDoor.Fn
open Go.RowKit Go.Proofs.YtcgejogmiglalaaDoorW.PrintWords Go.Proofs.YtcgejogmiglalaaDoorW.PrintLast Go.Proofs.YtcgejogmiglalaaDoorW.PrintMore Go.Proofs.YtcgejogmiglalaaDoor.Lf
attribute [local go_sem] max2_int min2_int max_two min_two max_three min_three max_four min_four   -- for this text's walks alone
set_option linter.unusedVariables false
set_option linter.unusedSimpArgs false
def head_Put.g : List S53 → ByteArray → Option ByteArray
 | [], acc => some acc
 | x :: r, acc => (le_Put.f (IntKind.u64.wrap x.f0) 2).bind fun p => (le_Put.f (IntKind.u64.wrap x.f1) 2).bind fun q => if p.size + q.size ≤ 1000 ∧ acc.size + (p ++ q).size ≤ 100000 then head_Put.g r (acc ++ (p ++ q)) else none
def head_Put.h (a0 a1 a2 n : Int) : Option ByteArray :=
 (le_Put.f a0 8).bind fun p1 => (le_Put.f (IntKind.u64.wrap a1) 2).bind fun p2 => (le_Put.f (IntKind.u64.wrap a2) 4).bind fun p3 => (le_Put.f (IntKind.u64.wrap n) 1).bind fun p4 =>
  if p1.size ≤ 1000 ∧ p2.size ≤ 1000 ∧ p3.size ≤ 1000 ∧ p4.size ≤ 1000 then some ((⟨#[114, 116, 99, 108]⟩ : ByteArray) ++ p1 ++ p2 ++ p3 ++ p4) else none
def head_Put.z (n : Nat) : ByteArray := ⟨(List.replicate n (0 : UInt8)).toArray⟩
theorem head_Put.z_size (n : Nat) : (head_Put.z n).size = n := by unfold head_Put.z; simp [ByteArray.size]
def head_Put.f (k : Nat) (a0 a1 a2 : Int) (l : List S53) : Option (ByteArray × Int) :=
 (head_Right.f k a0 a1 a2 l).bind fun ok => if ok = true then (if l.length ≤ 1000 then (head_Put.h a0 a1 a2 (l.length : Int)).bind fun s0 => (head_Put.g l s0).bind fun s1 => if s1.size ≤ 60 then (seal_Put.f (s1 ++ head_Put.z (60 - s1.size))).bind fun t => some (t, 0) else none else none) else some (⟨#[]⟩, 1)
theorem head_Put.mono : ∀ a0 a1 a2 a3 k, LeO (head_Put.f k a0 a1 a2 a3) (head_Put.f (k + 1) a0 a1 a2 a3) := by
 intro a0 a1 a2 a3 k
 unfold head_Put.f
 exact LeO.bind (head_Right.mono _ _ _ _ k) (fun _ => LeO.refl _)
theorem hp_builder_below {T e : TypeId} {B b : Nat} {bs : List Value} {w w1 : World} (h : Lib.IsBuilderF T e B b bs w) (hb : Below w.heap.size w w1) : Lib.IsBuilderF T e B b bs w1 := by
 have key : ∀ p, Lib.BuilderAtF T e B b p bs w → Lib.BuilderAtF T e B b p bs w1 := by
  rintro p ⟨hB, v, hv, ⟨hl, hown⟩, hne⟩
  have hlt : b < w.heap.size := (Array.getElem?_eq_some_iff.1 hv).1
  refine ⟨hB, v, (hb.block b hlt).trans hv, ⟨hl, ?_⟩, hne⟩
  rcases hown with hn | ⟨g, cap, cur, fz, h1, h2, h3, h4⟩
  ·exact Or.inl hn
  ·exact Or.inr ⟨g, cap, cur, fz, h1, h2, (hb.block g (Array.getElem?_eq_some_iff.1 h3).1).trans h3, h4⟩
 exact h.elim (fun x => .inl (key _ x)) (fun x => .inr (key _ x))
def HpB (b : Nat) (wr : World) (acc : ByteArray) : Prop := Lib.IsBuilderF 56 5 b b (Lib.byteCells acc.data.toList) wr
theorem hp_start (w : World) : HpB w.heap.size (w.alloc (.cells #[.pointer none, .slice none 0 0] 56)) ⟨#[]⟩ := Lib.IsBuilderF.of (Lib.fresh_isBuilder 56 5 w)
theorem hp_below {b : Nat} {wr w1 : World} {acc : ByteArray} (h : HpB b wr acc) (hb : Below wr.heap.size wr w1) : HpB b w1 acc := hp_builder_below h hb
theorem hp_cells (acc t : ByteArray) : Lib.byteCells acc.data.toList ++ Lib.strCells t = Lib.byteCells (acc ++ t).data.toList := by
 rw [Lib.strCells_eq, ← Lib.byteCells_append]
 simp [ByteArray.data_append]
theorem hp_write {b : Nat} {wr : World} {acc t : ByteArray} (h : HpB b wr acc) (hl : acc.size + t.size ≤ 100000000000) (hs : b ≤ wr.heap.size) :
  Calls Tryd.prog 21 #[.pointer (some ⟨b, 0, none⟩), .string t] wr fun e w' => e = .returned (.tuple #[.int .i64 t.size, .nilIface]) ∧ HpB b w' (acc ++ t) ∧ Below b wr w' ∧ Lib.OthersKept 5 (some b) wr w' := by
 refine (Sh.Builder_WriteString_k b b _ t wr h (by rw [Lib.byteCells_length]; have : acc.data.toList.length = acc.size := Array.length_toList; omega) hs).mono ?_
 rintro e w' ⟨rfl, hI, hb, ho⟩
 refine ⟨rfl, ?_, hb, ho⟩
 rw [hp_cells] at hI
 exact .inr hI
theorem hp_others {b k : Nat} {V V' : World} {t : TypeId} {acc : ByteArray} {c : Array Value} {fz : Nat × Nat} (h : Lib.OthersKept 5 (some b) V V') (hI : HpB b V acc) (hx : V.heap[k]? = some (.cells c t fz)) (hT : t ≠ 56) (he : t ≠ 5) : V'.heap[k]? = some (.cells c t fz) := by
 refine h k _ hx ?_ ?_
 ·intro eq
  cases eq
  rcases hI with ⟨_, v, hv, _⟩ | ⟨_, v, hv, _⟩ <;> (rw [hv] at hx; cases hx; exact hT rfl)
 ·intro c' fz' eq
  cases eq
  exact he rfl
theorem hp_read {b : Nat} {wr : World} {acc : ByteArray} (h : HpB b wr acc) (hs : b ≤ wr.heap.size) :
  Calls Tryd.prog 26 #[.pointer (some ⟨b, 0, none⟩)] wr fun e w' => e = .returned (.string acc) ∧ Below b wr w' := by
 refine (Sh.Builder_String_any_k b b acc.data.toList wr h hs).mono ?_
 rintro e w' ⟨rfl, _, hb, _⟩
 exact ⟨by cases acc; rfl, hb⟩
theorem hp_len {b : Nat} {wr : World} {acc : ByteArray} (h : HpB b wr acc) :
  Calls Tryd.prog 24 #[.pointer (some ⟨b, 0, none⟩)] wr fun e w' => e = .returned (.int .i64 (acc.size : Int)) ∧ wr = w' := by
 refine (Sh.Builder_Len_f b b _ wr h).mono ?_
 rintro e w' ⟨rfl, rfl⟩
 refine ⟨?_, rfl⟩
 rw [Lib.byteCells_length]
 have : acc.data.toList.length = acc.size := Array.length_toList
 rw [this]
theorem hp_repeat (n : Nat) : Lib.repeatL [(0 : UInt8)] n = List.replicate n 0 := by
 induction n with
 | zero => rfl
 | succ n ih => rw [Lib.repeatL, ih]; rfl
theorem hp_noughts (n : Nat) (w : World) (hn : n ≤ 1000000) :
  Calls Tryd.prog 23 #[.string ⟨#[0]⟩, .int .i64 (n : Int)] w fun e w' => e = .returned (.string (head_Put.z n)) ∧ Below w.heap.size w w' := by
 have h := Sh.strings_Repeat ⟨#[0]⟩ n w (by omega) (by show 1 * n ≤ _; omega)
 rw [show (⟨#[0]⟩ : ByteArray).data.toList = [0] from rfl, hp_repeat] at h
 exact h
theorem hp_rd (l : List S53) (j : Nat) (h : j < l.length) : l.drop j = rd_T53 l (j : Int) :: l.drop (j + 1) := by
 rw [List.drop_eq_getElem_cons h]
 congr 1
 unfold rd_T53
 simp [List.getD, h]
def HpX (a0 a1 a2 : Int) (A : Option Addr) (n c : Nat) (g : Nat) (V : World) : Prop :=
 V.cell? ⟨g, 0, none⟩ = some (.int .u64 a0) ∧ V.cell? ⟨g, 1, none⟩ = some (.int .i64 a1) ∧ V.cell? ⟨g, 2, none⟩ = some (.int .i64 a2) ∧ V.cell? ⟨g, 3, none⟩ = some (.slice A n c)
theorem hpX_of {a0 a1 a2 : Int} {A : Option Addr} {n c g : Nat} {V : World} (h : V.heap[g]? = some (.cells #[.int .u64 a0, .int .i64 a1, .int .i64 a2, .slice A n c] 25 (0, 0))) : HpX a0 a1 a2 A n c g V :=
 ⟨(bC h 0).trans rfl, (bC h 1).trans rfl, (bC h 2).trans rfl, (bC h 3).trans rfl⟩
theorem hpX_below {a0 a1 a2 : Int} {A : Option Addr} {n c g : Nat} {V V' : World} (h : HpX a0 a1 a2 A n c g V) {B : Nat} (hb : Below B V V') (hg : g < B) : HpX a0 a1 a2 A n c g V' :=
 ⟨(hb.cell (p := ⟨g, 0, none⟩) hg).trans h.1, (hb.cell (p := ⟨g, 1, none⟩) hg).trans h.2.1, (hb.cell (p := ⟨g, 2, none⟩) hg).trans h.2.2.1, (hb.cell (p := ⟨g, 3, none⟩) hg).trans h.2.2.2⟩
theorem hp_nil (t : ByteArray) : (⟨#[]⟩ : ByteArray) ++ t = t := by apply ByteArray.ext; simp [ByteArray.data_append]
set_option maxHeartbeats 8000000 in
set_option maxRecDepth 100000 in
theorem head_Put.calls (k : Nat) (a0_0 a0_1 a0_2 : Int) (A0_3 : Option Addr) (c0_3 : Nat) (l0_3 : List S53) (r1 : ByteArray) (r2 : Int) (w : World) (hr0_3 : Kd.C k53 w A0_3 l0_3.length l0_3) (hc0_3 : l0_3.length ≤ c0_3) (h : head_Put.f k a0_0 a0_1 a0_2 l0_3 = some (r1, r2)) :
  Calls Tryd.prog 10 #[.agg #[.int .u64 a0_0, .int .i64 a0_1, .int .i64 a0_2, .slice A0_3 l0_3.length c0_3]] w fun e w' => e = .returned (.tuple #[.string r1, .int .i64 r2]) ∧ Below w.heap.size w w' := by
 have HR := Ax.mk hr0_3
 have HC := Ax.mk hc0_3
 unfold head_Put.f at h
 replace h := Option.bind_eq_some_iff.1 h
 obtain ⟨ok, h1, h⟩ := h
 have A1 := Ax.mk h1
 have H := Ax.mk h
 clear hr0_3 hc0_3 h1 h
 have HB0 := Ax.mk (below_alloc (Below.refl w.heap.size w) (.cells #[.int .u64 a0_0, .int .i64 a0_1, .int .i64 a0_2, .slice A0_3 l0_3.length c0_3] 25))
 have HBK := Ax.mk (heap_alloc_new w (.cells #[.int .u64 a0_0, .int .i64 a0_1, .int .i64 a0_2, .slice A0_3 l0_3.length c0_3] 25))
 go_enter Tryd.func10, Tryd.ntmps10
 go_wp2_with (first | (go_at_call 13; fail))
 refine (head_Right.calls k a0_0 a0_1 a0_2 A0_3 c0_3 l0_3 ok _ (Kd.C_below HR.out HB0.out) HC.out A1.out).mono ?_
 rintro e W1 ⟨rfl, hb1⟩
 have hB1 := bP HB0.out hb1
 have hk1 := bB HBK.out hb1
 have hlt1 : w.heap.size < W1.heap.size := (Array.getElem?_eq_some_iff.1 hk1).1
 clear hb1 HB0 HBK A1
 cases ok with
 | false =>
  have hh := H.out
  rw [if_neg (by decide)] at hh
  cases hh
  have HB1 := Ax.mk hB1
  clear H hB1 hk1 hlt1
  go_wp2
  go_ret2
  exact ⟨rfl, HB1.out⟩
 | true =>
  have hh := H.out
  clear H
  rw [if_pos rfl] at hh
  by_cases hln : l0_3.length ≤ 1000
  case neg => rw [if_neg hln] at hh; cases hh
  rw [if_pos hln] at hh
  replace hh := Option.bind_eq_some_iff.1 hh
  obtain ⟨s0, hs0, hh⟩ := hh
  replace hh := Option.bind_eq_some_iff.1 hh
  obtain ⟨s1, hs1, hh⟩ := hh
  by_cases h60 : s1.size ≤ 60
  case neg => rw [if_neg h60] at hh; cases hh
  rw [if_pos h60] at hh
  replace hh := Option.bind_eq_some_iff.1 hh
  obtain ⟨t, ht, hh⟩ := hh
  cases hh
  unfold head_Put.h at hs0
  replace hs0 := Option.bind_eq_some_iff.1 hs0
  obtain ⟨p1, hp1, hs0⟩ := hs0
  replace hs0 := Option.bind_eq_some_iff.1 hs0
  obtain ⟨p2, hp2, hs0⟩ := hs0
  replace hs0 := Option.bind_eq_some_iff.1 hs0
  obtain ⟨p3, hp3, hs0⟩ := hs0
  replace hs0 := Option.bind_eq_some_iff.1 hs0
  obtain ⟨p4, hp4, hs0⟩ := hs0
  by_cases hsz : p1.size ≤ 1000 ∧ p2.size ≤ 1000 ∧ p3.size ≤ 1000 ∧ p4.size ≤ 1000
  case neg => rw [if_neg hsz] at hs0; cases hs0
  rw [if_pos hsz] at hs0
  obtain ⟨z1, z2, z3, z4⟩ := hsz
  have HP1 := Lib.hid (fun w => le_Put.calls a0_0 8 p1 w hp1)
  have HP2 := Lib.hid (fun w => le_Put.calls (IntKind.u64.wrap a0_1) 2 p2 w hp2)
  have HP3 := Lib.hid (fun w => le_Put.calls (IntKind.u64.wrap a0_2) 4 p3 w hp3)
  have HP4 := Lib.hid (fun w => le_Put.calls (IntKind.u64.wrap (l0_3.length : Int)) 1 p4 w hp4)
  have HS0 := Ax.mk (Option.some.inj hs0)
  have HS1 := Ax.mk hs1
  have HT := Ax.mk ht
  have H60 := Ax.mk h60
  have HLN := Ax.mk hln
  clear hp1 hp2 hp3 hp4 hs0 hs1 ht h60 hln
  have hI0 := hp_start W1
  have hb2 : Below W1.heap.size W1 (W1.alloc (.cells #[.pointer none, .slice none 0 0] 56)) := below_alloc (Below.refl _ _) _
  have hX0 := hpX_below (hpX_of hk1) hb2 hlt1
  have hB2 := bP hB1 hb2
  have hz2 : W1.heap.size < (W1.alloc (.cells #[.pointer none, .slice none 0 0] 56)).heap.size := by simp
  go_wp2
  generalize W1.alloc (.cells #[.pointer none, .slice none 0 0] 56) = W2 at hI0 hX0 hB2 hz2 ⊢
  have hcd : HpX a0_0 a0_1 a0_2 A0_3 l0_3.length c0_3 w.heap.size W2.drew := hX0
  have hb0 : Below W2.heap.size W2 W2.drew := ⟨rfl, rfl, rfl, Nat.le_refl _, fun _ _ => rfl⟩
  have f1 : (9223372036854775807 < 4 + p1.size) = False := eq_false (by omega)
  have f2 : (9223372036854775807 < 4 + p1.size + p2.size) = False := eq_false (by omega)
  have f3 : (9223372036854775807 < 4 + p1.size + p2.size + p3.size) = False := eq_false (by omega)
  have f4 : (9223372036854775807 < 4 + p1.size + p2.size + p3.size + p4.size) = False := eq_false (by omega)
  have hg2 : w.heap.size < W2.heap.size := Nat.lt_trans hlt1 hz2
  have hsS : ((⟨#[114, 116, 99, 108]⟩ : ByteArray) ++ p1 ++ p2 ++ p3 ++ p4).size ≤ 5000 := by
   simp only [ByteArray.size_append]
   show 4 + p1.size + p2.size + p3.size + p4.size ≤ 5000
   omega
  have hWS := fun V (hV : Below W2.heap.size W2 V) => hp_write (hp_below hI0 hV) (t := (⟨#[114, 116, 99, 108]⟩ : ByteArray) ++ p1 ++ p2 ++ p3 ++ p4) (by show 0 + _ ≤ _; omega) (by have := hV.size; omega)
  have HZ := Ax.mk (And.intro hlt1 (And.intro hz2 (And.intro z1 (And.intro z2 (And.intro z3 z4)))))
  have HI0 := Ax.mk hI0
  have HX0 := Ax.mk hX0
  have HK1 := Ax.mk hk1
  have HB2 := Ax.mk hB2
  have hP1 := HP1.out
  have hP2 := HP2.out
  have hP3 := HP3.out
  have hP4 := HP4.out
  clear hI0 hX0 hB2 hz2 hb2 hB1 hk1 hlt1 z1 z2 z3 z4 HP1 HP2 HP3 HP4 hsS
  go_region_held3 (fun V => V.cell? ⟨w.heap.size, 0, none⟩ = some (.int .u64 a0_0) ∧ V.cell? ⟨w.heap.size, 1, none⟩ = some (.int .i64 a0_1) ∧ V.cell? ⟨w.heap.size, 2, none⟩ = some (.int .i64 a0_2) ∧ V.cell? ⟨w.heap.size, 3, none⟩ = some (.slice A0_3 l0_3.length c0_3))
   (first | exact hd5 | exact hd4 | exact hd3 | exact hd2 | exact hd1 | exact hcd) (first
   | (go_at_call 22; refine (hP1 _).mono ?_; clear hP1; rintro e V1 ⟨rfl, hv1⟩; have hb1 := hb0.trans hv1; have hd1 : HpX a0_0 a0_1 a0_2 A0_3 l0_3.length c0_3 w.heap.size V1 := hpX_below HX0.out hb1 hg2)
   | (go_at_call 22; refine (hP2 _).mono ?_; clear hP2; rintro e V2 ⟨rfl, hv2⟩; have hb2 := hb1.trans (hv2.mono hb1.size); have hd2 : HpX a0_0 a0_1 a0_2 A0_3 l0_3.length c0_3 w.heap.size V2 := hpX_below HX0.out hb2 hg2)
   | (go_at_call 22; refine (hP3 _).mono ?_; clear hP3; rintro e V3 ⟨rfl, hv3⟩; have hb3 := hb2.trans (hv3.mono hb2.size); have hd3 : HpX a0_0 a0_1 a0_2 A0_3 l0_3.length c0_3 w.heap.size V3 := hpX_below HX0.out hb3 hg2)
   | (go_at_call 22; refine (hP4 _).mono ?_; clear hP4; rintro e V4 ⟨rfl, hv4⟩; have hb4 := hb3.trans (hv4.mono hb3.size); have hd4 : HpX a0_0 a0_1 a0_2 A0_3 l0_3.length c0_3 w.heap.size V4 := hpX_below HX0.out hb4 hg2)
   | (go_at_call 21; refine (hWS _ hb4).mono ?_; clear hWS; rintro e V5 ⟨rfl, hI5, hb5, _⟩; have hd5 : HpX a0_0 a0_1 a0_2 A0_3 l0_3.length c0_3 w.heap.size V5 := hpX_below hd4 hb5 HZ.out.1))
  rw [hp_nil, HS0.out] at hI5
  have hB5 := (bP HB2.out hb4).trans (hb5.mono (Nat.le_of_lt HZ.out.1))
  have hz5 : W1.heap.size < V5.heap.size := Nat.lt_of_lt_of_le HZ.out.2.1 (Nat.le_trans hb4.size hb5.size)
  have hs5 : s0.size ≤ 5000 := by
   have hq := HZ.out.2.2
   rw [← HS0.out]
   simp only [ByteArray.size_append]
   show 4 + p1.size + p2.size + p3.size + p4.size ≤ 5000
   omega
  have HI5 := Ax.mk hI5
  have HB5 := Ax.mk hB5
  have HZ5 := Ax.mk hz5
  have HS5 := Ax.mk hs5
  have c3 := hd5.2.2.2
  have HWz := Ax.mk HZ.out.1
  clear hI5 hB5 hz5 hs5 hd1 hd2 hd3 hd4 hd5 hb0 hb1 hb2 hb3 hb4 hb5 hcd hv1 hv2 hv3 hv4 f1 f2 f3 f4 hg2 HX0 HI0 HB2 HK1 HS0 HZ
  go_wp2
  go_loopw [34] (fun v34 wr => ∃ (j : Nat) (acc : ByteArray), v34 = .int .i64 (j : Int) ∧ j ≤ l0_3.length ∧ Ax (head_Put.g (l0_3.drop j) acc = some s1) ∧ Ax (acc.size ≤ 100000) ∧ Ax (HpB W1.heap.size wr acc) ∧ Ax (Below w.heap.size w wr) ∧ Ax (W1.heap.size < wr.heap.size)) (fun v34 _ => l0_3.length - (intOf v34).toNat)
  case atStart => exact ⟨0, s0, rfl, Nat.zero_le _, HS1, ⟨Nat.le_trans HS5.out (by decide)⟩, HI5, HB5, HZ5⟩
  case round =>
   clear HI5 HB5 HZ5 HS5 HS1 c3
   obtain ⟨j, acc, rfl, hj, HG, HS, HI, HB, HZ⟩ := hrel
   by_cases hlt : j < l0_3.length
   ·have HLT := Ax.mk hlt
    obtain ⟨ad, rfl, hx0, hx1⟩ := at_T53 HR.out (j : Int) (by omega) (by omega)
    have hG := HG.out
    rw [hp_rd l0_3 j hlt, head_Put.g] at hG
    clear HG
    replace hG := Option.bind_eq_some_iff.1 hG
    obtain ⟨p, hp, hG⟩ := hG
    replace hG := Option.bind_eq_some_iff.1 hG
    obtain ⟨q, hq, hG⟩ := hG
    simp only [Int.toNat_natCast] at hx0 hx1
    replace hx0 := (HB.out.cell (World.block_lt_of_cell? w _ hx0)).trans hx0
    replace hx1 := (HB.out.cell (World.block_lt_of_cell? w _ hx1)).trans hx1
    generalize rd_T53 l0_3 (j : Int) = x at hp hq hG hx0 hx1
    by_cases hc : p.size + q.size ≤ 1000 ∧ acc.size + (p ++ q).size ≤ 100000
    case neg => rw [if_neg hc] at hG; cases hG
    rw [if_pos hc] at hG
    have HG := Ax.mk hG
    have HC2 := Ax.mk hc
    have HP5 := Lib.hid (fun w => le_Put.calls (IntKind.u64.wrap x.f0) 2 p w hp)
    have HP6 := Lib.hid (fun w => le_Put.calls (IntKind.u64.wrap x.f1) 2 q w hq)
    clear hp hq hG hc
    go_wp2
    clear hx0 hx1
    have hb0 : Below wr.heap.size wr (wr.alloc (.cells #[.int .i64 x.f0, .int .i64 x.f1] 53)) := below_alloc (Below.refl _ _) _
    have hxk := heap_alloc_new wr (.cells #[.int .i64 x.f0, .int .i64 x.f1] 53)
    have hI1 := hp_below HI.out hb0
    have hB1 := bP HB.out hb0
    have hz1 : wr.heap.size < (wr.alloc (.cells #[.int .i64 x.f0, .int .i64 x.f1] 53)).heap.size := by simp
    generalize wr.alloc (.cells #[.int .i64 x.f0, .int .i64 x.f1] 53) = W2 at hb0 hxk hI1 hB1 hz1 ⊢
    have hb00 : Below W2.heap.size W2 W2.drew := ⟨rfl, rfl, rfl, Nat.le_refl _, fun _ _ => rfl⟩
    have hxlt : wr.heap.size < W2.heap.size := hz1
    have hd0 : W2.drew.cell? ⟨wr.heap.size, 0, none⟩ = some (.int .i64 x.f0) ∧ W2.drew.cell? ⟨wr.heap.size, 1, none⟩ = some (.int .i64 x.f1) := ⟨(bC hxk 0).trans rfl, (bC hxk 1).trans rfl⟩
    have hcc : ∀ V : World, V.heap[wr.heap.size]? = some (.cells #[.int .i64 x.f0, .int .i64 x.f1] 53 (0, 0)) → V.cell? ⟨wr.heap.size, 0, none⟩ = some (.int .i64 x.f0) ∧ V.cell? ⟨wr.heap.size, 1, none⟩ = some (.int .i64 x.f1) := fun V h => ⟨(bC h 0).trans rfl, (bC h 1).trans rfl⟩
    have HCC := Lib.hid hcc
    have f1 : (9223372036854775807 < p.size + q.size) = False := eq_false (by have := HC2.out; omega)
    have hWS := fun V (hV : Below W2.heap.size W2 V) => hp_write (hp_below hI1 hV) (t := p ++ q) (by have := HC2.out; omega) (by have := hV.size; have := HZ.out; omega)
    have hP5 := HP5.out
    have hP6 := HP6.out
    have HXK := Ax.mk hxk
    have HI1 := Ax.mk hI1
    have HB1 := Ax.mk hB1
    have HZ1 := Ax.mk hz1
    clear hcc HP5 HP6 hxk hI1 hB1 hz1 hb0 HI HB
    go_region_held3 (fun V => V.cell? ⟨wr.heap.size, 0, none⟩ = some (.int .i64 x.f0) ∧ V.cell? ⟨wr.heap.size, 1, none⟩ = some (.int .i64 x.f1))
     (first | exact hd3 | exact hd2 | exact hd1 | exact hd0) (first
     | (go_at_call 22; refine (hP5 _).mono ?_; clear hP5; rintro e V1 ⟨rfl, hv1⟩; have hb1 := hb00.trans hv1; have hd1 := HCC.out V1 (bB HXK.out hb1))
     | (go_at_call 22; refine (hP6 _).mono ?_; clear hP6; rintro e V2 ⟨rfl, hv2⟩; have hb2 := hb1.trans (hv2.mono hb1.size); have hd2 := HCC.out V2 (bB HXK.out hb2))
     | (go_at_call 21; refine (hWS _ hb2).mono ?_; clear hWS; rintro e V3 ⟨rfl, hI3, hb3, ho3⟩; have hd3 := HCC.out V3 (hp_others ho3 (hp_below HI1.out hb2) (bB HXK.out hb2) (by decide) (by decide))))
    have HI3 := Ax.mk hI3
    have HB3 := Ax.mk ((bP HB1.out hb2).trans (hb3.mono (Nat.le_of_lt HWz.out)))
    have HZ3 := Ax.mk (show W1.heap.size < V3.heap.size by have h1 := HZ.out; have h2 := HZ1.out; have h3 := hb2.size; have h4 := hb3.size; omega)
    clear hI3 hb00 hb1 hb2 hb3 ho3 hd0 hd1 hd2 hd3 hv1 hv2 f1 hxlt HXK HI1 HB1 HZ1 HCC
    have hjb : j ≤ 1000 := by have h1 := HLN.out; have h2 := HLT.out; omega
    go_wp2
    go_roundw
    case rel => exact ⟨j + 1, acc ++ (p ++ q), by go_num, HLT.out, HG, ⟨by rw [ByteArray.size_append]; exact HC2.out.2⟩, HI3, HB3, HZ3⟩
    case measure => have := HLT.out; simp [intOf]; omega
   ·obtain rfl : j = l0_3.length := by omega
    have hG := HG.out
    rw [List.drop_length, head_Put.g] at hG
    cases hG
    clear HG HS
    have hn : (60 : Int) - (s1.size : Int) = ((60 - s1.size : Nat) : Int) := by have := H60.out; omega
    have HN := Ax.mk hn
    have h6 : s1.size ≤ 60 := H60.out
    clear hn
    go_wp2_with (first | (go_at_call 24; fail))
    refine (hp_len HI.out).mono ?_
    rintro e w' ⟨rfl, rfl⟩
    go_wp2_with (first | (go_at_call 23; fail))
    rw [HN.out]
    refine (hp_noughts (60 - s1.size) _ (by omega)).mono ?_
    rintro e w2 ⟨rfl, hb2⟩
    have HI2 := Ax.mk (hp_below HI.out hb2)
    have HB2 := Ax.mk (bP HB.out hb2)
    have HZ2 := Ax.mk (Nat.lt_of_lt_of_le HZ.out hb2.size)
    clear hb2 HI HB HZ
    have hzs := head_Put.z_size (60 - s1.size)
    have HZS := Ax.mk hzs
    have HTS := Lib.hid (fun w => seal_Put.calls (s1 ++ head_Put.z (60 - s1.size)) r1 w HT.out)
    clear hzs HT
    generalize head_Put.z (60 - s1.size) = Z at HZS HTS ⊢
    go_wp2_with (first | (go_at_call 21; fail))
    refine (hp_write HI2.out (by have := HZS.out; omega) (Nat.le_of_lt HZ2.out)).mono ?_
    rintro e w3 ⟨rfl, hI3, hb3, _⟩
    have HI3 := Ax.mk hI3
    have HB3 := Ax.mk (HB2.out.trans (hb3.mono (Nat.le_of_lt HWz.out)))
    have HZ3 := Ax.mk (Nat.lt_of_lt_of_le HZ2.out hb3.size)
    clear hI3 hb3 HI2 HB2 HZ2
    go_wp2_with (first | (go_at_call 26; fail))
    refine (hp_read HI3.out (Nat.le_of_lt HZ3.out)).mono ?_
    rintro e w4 ⟨rfl, hb4⟩
    have HB4 := Ax.mk (HB3.out.trans (hb4.mono (Nat.le_of_lt HWz.out)))
    clear hb4 HI3 HB3 HZ3
    go_wp2_with (first | (go_at_call 25; fail))
    refine (HTS.out _).mono ?_
    rintro e w5 ⟨rfl, hb5⟩
    have HB5 := Ax.mk (bP HB4.out hb5)
    clear hb5 HB4
    go_wp2
    go_ret2
    exact ⟨rfl, HB5.out⟩
end Go.Proofs.YtcgejogmiglalaaDoor.Fn
end
