-- Packed by pack.py, a program of this session, out of texts of this claim.
import Derived.Test.YtboommbclbjlnaaDoorClJournalReads1
import Derived.Test.YtboommbclbjlnaaDoorClJournalReads2
import Derived.Test.YtboommbclbjlnaaDoorLfRange
import Derived.RangeFuncBound
import Derived.RangeFuncLeaves
import Derived.Shelf.Abstract
import Derived.OwnWalkIn
import Derived.TacticsInMore
import Derived.Sort.LoopGhostIn
import Derived.Deep.RegionHeld3
import Derived.Lib.Hide
section
-- Written by printx.py, a program of this session over the kit's print: each Go function as a plain Lean function, and that the Go code computes it.
namespace Go.Proofs.YtboommbclbjlnaaDoor.Fn
open Go.RowKit Go.Proofs.YtboommbclbjlnaaDoorW.PrintWords Go.Proofs.YtboommbclbjlnaaDoorW.PrintLast Go.Proofs.YtboommbclbjlnaaDoorW.PrintMore Go.Proofs.YtboommbclbjlnaaDoor.Lf
attribute [local go_sem] max2_int min2_int max_two min_two max_three min_three max_four min_four   -- for this text's walks alone
set_option linter.unusedVariables false
set_option linter.unusedSimpArgs false
attribute [local go_sem] Oper.semAt_some
def step_Scan.l : Nat → ByteArray → List S24 → Option (List S24 × ByteArray)
 | 0, _, _ => none
 | k + 1, s, acc => (step_Take.f k s).bind fun t => if t.2.2.2.2.2.2 = 0 then (if acc.length ≤ 1000000 then step_Scan.l k t.2.2.2.2.2.1 (acc ++ [⟨t.1, t.2.1, t.2.2.1, t.2.2.2.1, t.2.2.2.2.1⟩]) else none) else some (acc, s)
def step_Scan.f (k : Nat) (a0 : ByteArray) : Option (List S24 × Int) := (step_Scan.l k a0 []).bind fun t => some (t.1, wrap64 ((a0.size : Int) - (t.2.size : Int)))
theorem step_Scan.mono_l : ∀ (k : Nat) (s : ByteArray) (acc : List S24), LeO (step_Scan.l k s acc) (step_Scan.l (k + 1) s acc)
 | 0, s, acc => LeO.none _
 | k + 1, s, acc => by
  unfold step_Scan.l
  refine LeO.bind (step_Take.mono _ _) (fun t => ?_)
  refine LeO.ite ?_ (LeO.refl _)
  exact LeO.ite (step_Scan.mono_l k _ _) (LeO.refl _)
theorem step_Scan.mono : ∀ a0 k, LeO (step_Scan.f k a0) (step_Scan.f (k + 1) a0) := fun a0 k => LeO.bind (step_Scan.mono_l k _ _) (fun _ => LeO.refl _)
set_option maxHeartbeats 4000000 in
set_option maxRecDepth 100000 in
theorem step_Scan.records (s : ByteArray) (w : World) :
  Calls Tryd.prog 59 #[.string s] w fun e w' => e = .returned (.func (.func 73) #[] #[.pointer (some ⟨w.heap.size, 0, none⟩)]) ∧ w' = w.alloc (.cells #[.string s] 9) := by
 go_enter Tryd.func59, Tryd.ntmps59
 go_wp2
 go_ret
 exact ⟨rfl, rfl⟩
def step_Scan.cells (x : S24) : Array Value := #[.int .i64 x.f0, .int .i64 x.f1, .int .i64 x.f2, .int .u64 x.f3, .string x.f4]
theorem step_Scan.set_box {W : World} {g : Nat} {t : TypeId} {v : Value} (h : W.heap[g]? = some (.cells #[v] t (0, 0))) (u : Value) : (W.setCell ⟨g, 0, none⟩ u).heap[g]? = some (.cells #[u] t (0, 0)) := bU (cs := #[v]) h 0 _ rfl
set_option maxHeartbeats 8000000 in
set_option maxRecDepth 100000 in
theorem step_Scan.iter (m l Sb k : Nat) (J : List S24 → ByteArray → World → Prop) (r : List S24 × ByteArray)
  (hJb : ∀ acc s W W', J acc s W → Below W.heap.size W W' → J acc s W')
  (hJs : ∀ acc s W, J acc s W → ∀ u, J acc s (W.setCell ⟨Sb, 0, none⟩ u))
  (hJT : ∀ acc s W, J acc s W → Tabs W)
  (hY : ∀ acc (x : S24) s rest W v, J acc s W → acc.length ≤ 1000000 → W.heap[Sb]? = some (.cells #[v] 9 (0, 0)) → YieldAt Fence.wide (m - 1) Tryd.prog l #[.agg #[.int .i64 x.f0, .int .i64 x.f1, .int .i64 x.f2, .int .u64 x.f3, .string x.f4], .string rest] W fun e W' =>
   e = .returned (.bool true) ∧ J (acc ++ [x]) rest W' ∧ W'.heap[Sb]? = some (.cells #[v] 9 (0, 0)))
  (s : ByteArray) (acc : List S24) (h : step_Scan.l k s acc = some r) (W : World) (hS : W.heap[Sb]? = some (.cells #[.string s] 9 (0, 0))) (h0 : J acc s W) :
  CallsIn Fence.wide m Tryd.prog 73 #[.func (.yield l) #[] #[], .pointer (some ⟨Sb, 0, none⟩)] W fun e W' => (∃ v, e = .returned v) ∧ J r.1 r.2 W' := by
 have HY := Lib.hid hY
 have HB := Lib.hid hJb
 have HS := Lib.hid hJs
 have HT := Lib.hid hJT
 have H := Ax.mk h
 have HK := Ax.mk hS
 have HJ := Ax.mk h0
 clear hY hJb hJs hJT h hS h0
 refine callsIn_of_wp Tryd.func73 rfl trivial ?_ rfl
 simp only [Tryd.ntmps73, List.size_toArray, List.length_cons, List.length_nil, Nat.reduceAdd, Nat.reduceSub, Array.replicate_succ, Array.replicate_zero, List.push_toArray, List.append_toArray, List.nil_append, List.cons_append]
 gi_wp2
 gi_loopg [3] k (fun kq _ wr => ∃ (s1 : ByteArray) (a1 : List S24), Ax (step_Scan.l kq s1 a1 = some r) ∧ Ax (wr.heap[Sb]? = some (.cells #[.string s1] 9 (0, 0))) ∧ Ax (J a1 s1 wr))
 case atStart => exact ⟨s, acc, H, HK, HJ⟩
 case round =>
  clear H HK HJ
  obtain ⟨s1, a1, H, HK, HJ⟩ := hrel
  cases gk with
  | zero => exact absurd H.out (by simp [step_Scan.l])
  | succ k1 =>
   have hh := H.out
   clear H
   rw [step_Scan.l] at hh
   obtain ⟨⟨t1, t2, t3, t4, t5, t6, t7⟩, ht, hh⟩ := Option.bind_eq_some_iff.1 hh
   have HTk := Ax.mk ht
   have H := Ax.mk hh
   clear ht hh
   have hc := (bC HK.out 0).trans rfl
   have hAl : ∀ w1 : World, Below w1.heap.size w1 (w1.alloc (.cells #[.int .i64 t1, .int .i64 t2, .int .i64 t3, .int .u64 t4, .string t5] 24)) := fun w1 => below_alloc (Below.refl _ _) _
   have HA := Lib.hid hAl
   clear hAl
   by_cases h0 : t7 = 0
   ·subst h0
    have hh := H.out
    clear H
    rw [if_pos rfl] at hh
    by_cases hl : a1.length ≤ 1000000
    case neg => rw [if_neg hl] at hh; cases hh
    rw [if_pos hl] at hh
    have H := Ax.mk hh
    have HL := Ax.mk hl
    clear hh hl
    gi_wp2_with (
     refine ⟨trivial, fun h => absurd h (by simp [Fence.wide]), ?_⟩
     gi_at_call 27
     refine (callsIn_wide.2 (step_Take.calls k1 s1 t1 t2 t3 t4 t5 t6 0 wr HTk.out (HT.out _ _ _ HJ.out))).mono ?_
     rintro e w1 ⟨rfl, hb1⟩
     have HJ2 := Ax.mk (HB.out _ _ _ _ (HB.out _ _ _ _ HJ.out hb1) (HA.out w1))
     have HS2 := Ax.mk (blk_alloc (bB HK.out hb1) (.cells #[.int .i64 t1, .int .i64 t2, .int .i64 t3, .int .u64 t4, .string t5] 24))
     clear hc hb1
     obtain ⟨fn, tmps, assign, body, hy, hR⟩ := HY.out a1 ⟨t1, t2, t3, t4, t5⟩ s1 t6 _ _ HJ2.out HL.out HS2.out
     simp only at hy)
    refine ⟨fun h => absurd h (by simp [Fence.wide]), ?_⟩
    refine hR.mono ?_
    rintro e W3 ⟨rfl, hJ3, hS3⟩
    have hc3 := (bC hS3 0).trans rfl
    have hf3 := bF hS3 0
    have HJ3 := Ax.mk (HS.out _ _ _ hJ3 (.string t6))
    have HS3 := Ax.mk (step_Scan.set_box hS3 (.string t6))
    clear hJ3 hS3 hy hR
    gi_wp2
    gi_roundg k1
    case rel => exact ⟨t6, a1 ++ [⟨t1, t2, t3, t4, t5⟩], H, HS3, HJ3⟩
    case measure => omega
   ·have hh := H.out
    rw [if_neg h0] at hh
    cases hh
    have c1 : (t7 == 0) = false := beq_eq_false_iff_ne.mpr h0
    have c2 : (t7 != 0) = true := bne_iff_ne.mpr h0
    clear h0 H
    gi_wp2_with (
     refine ⟨trivial, fun h => absurd h (by simp [Fence.wide]), ?_⟩
     gi_at_call 27
     refine (callsIn_wide.2 (step_Take.calls k1 s1 t1 t2 t3 t4 t5 t6 t7 wr HTk.out (HT.out _ _ _ HJ.out))).mono ?_
     rintro e w1 ⟨rfl, hb1⟩
     have HJ2 := Ax.mk (HB.out _ _ _ _ (HB.out _ _ _ _ HJ.out hb1) (HA.out w1))
     clear hc hb1)
    refine ⟨fun _ h => (by cases h), ?_⟩
    gi_wp2
    refine bodyPost_ret (results_none rfl _ _ _) rfl ?_
    exact ⟨⟨_, rfl⟩, HJ2.out⟩
structure step_Scan.At (w : World) (acc : List S24) (s : ByteArray) (Sb : Nat) (W : World) : Prop where
 row : ∃ v, W.heap[w.heap.size]? = some (.cells #[v] 29 (0, 0)) ∧ Kd.R k24 24 W w.heap.size (fun b => b ≠ Sb) v acc
 left : W.heap[w.heap.size + 1]? = some (.cells #[.string s] 9 (0, 0))
 below : Below w.heap.size w W
theorem step_Scan.put_cells {W : World} {g L : Nat} {c : Array Value} {t : TypeId} {f : Nat × Nat} {r : Loop} (h : W.heap[g]? = some (.cells c t f)) (hl : W.heap[L]? = some (.loop r)) (o : Obj) : (W.putObj L o).heap[g]? = some (.cells c t f) :=
 (World.putObj_heap_other (fun e => by rw [e, hl] at h; cases h)).trans h
theorem step_Scan.put_R {d : Kd S24} {e : Nat} {W : World} {base : Nat} {ok : Nat → Prop} {v : Value} {xs : List S24} {L : Nat} {r : Loop} (h : d.R e W base ok v xs) (hl : W.heap[L]? = some (.loop r)) (o : Obj) : d.R e (W.putObj L o) base ok v xs :=
 Kd.R_mono (Kd.R_move (Kd.R_bound h) (fun k hk => World.putObj_heap_other (fun e => by obtain ⟨_, _, _, _, _, c, hc⟩ := hk; rw [e, hl] at hc; cases hc))) (fun _ hk => hk.1)
theorem step_Scan.put_defs {d : Kd S24} {e : Nat} {W : World} {base : Nat} {ok : Nat → Prop} {v : Value} {xs : List S24} {D : Nat} {ds : Option (List Deferred)} (h : d.R e W base ok v xs) (hl : W.heap[D]? = some (.deferred ds)) (o : Obj := .deferred none) : d.R e (W.putObj D o) base ok v xs :=
 Kd.R_mono (Kd.R_move (Kd.R_bound h) (fun k hk => World.putObj_heap_other (fun e => by obtain ⟨_, _, _, _, _, c, hc⟩ := hk; rw [e, hl] at hc; cases hc))) (fun _ hk => hk.1)
theorem step_Scan.at_put {w : World} {acc : List S24} {s : ByteArray} {Sb : Nat} {W : World} {L : Nat} {r : Loop} (h : step_Scan.At w acc s Sb W) (hl : W.heap[L]? = some (.loop r)) (hL : w.heap.size ≤ L) (o : Obj) : step_Scan.At w acc s Sb (W.putObj L o) := by
 obtain ⟨⟨v, h1, h2⟩, h3, h4⟩ := h
 exact ⟨⟨v, step_Scan.put_cells h1 hl o, step_Scan.put_R h2 hl o⟩, step_Scan.put_cells h3 hl o, h4.trans (belowK_b (w := w) (Nat.le_refl _) W L _ o hL hl rfl rfl)⟩
theorem step_Scan.rounds {fn : FuncId} {tm : Array Value} {ps : Array Tmp} {as_ bd : Code} {L D Sb m k : Nat} {w : World} (HT : Tabs w) (hSb : Sb = w.heap.size + 2) (r : List S24 × ByteArray) (s : ByteArray) (h : step_Scan.l k s [] = some r) (W : World)
  (hr : RngAt fn tm ps as_ bd L D .ready W) (hS : W.heap[Sb]? = some (.cells #[.string s] 9 (0, 0))) (hA : step_Scan.At w [] s Sb W)
  (hY : ∀ acc (x : S24) s rest W v, RngAt fn tm ps as_ bd L D .ready W → step_Scan.At w acc s Sb W → acc.length ≤ 1000000 → W.heap[Sb]? = some (.cells #[v] 9 (0, 0)) → YieldAt Fence.wide (m - 1) Tryd.prog L #[.agg #[.int .i64 x.f0, .int .i64 x.f1, .int .i64 x.f2, .int .u64 x.f3, .string x.f4], .string rest] W fun e W' =>
   e = .returned (.bool true) ∧ (RngAt fn tm ps as_ bd L D .ready W' ∧ step_Scan.At w (acc ++ [x]) rest Sb W') ∧ W'.heap[Sb]? = some (.cells #[v] 9 (0, 0))) :
  CallsIn Fence.wide m Tryd.prog 73 #[.func (.yield L) #[] #[], .pointer (some ⟨Sb, 0, none⟩)] W fun e W' => (∃ v, e = .returned v) ∧ RngAt fn tm ps as_ bd L D .ready W' ∧ step_Scan.At w r.1 r.2 Sb W' := by
 refine step_Scan.iter m L Sb k (fun acc s W => RngAt fn tm ps as_ bd L D .ready W ∧ step_Scan.At w acc s Sb W) r ?_ ?_ ?_ ?_ s [] h W hS ⟨hr, hA⟩
 ·rintro acc s W W' ⟨⟨h1, h2⟩, ⟨⟨v, h3, h4⟩, h5, h6⟩⟩ hb
  exact ⟨⟨(hb.block _ (Array.getElem?_eq_some_iff.1 h1).1).trans h1, (hb.block _ (Array.getElem?_eq_some_iff.1 h2).1).trans h2⟩, ⟨⟨v, bB h3 hb, Kd.R_below h4 hb⟩, bB h5 hb, bP h6 hb⟩⟩
 ·rintro acc s W ⟨h1, ⟨⟨v, h3, h4⟩, h5, h6⟩⟩ u
  exact ⟨rng_others h1 (KeepsOthers.setCell _ _ _), ⟨⟨v, bR (p := ⟨Sb, 0, none⟩) h3 (show w.heap.size ≠ Sb by omega) _, Kd.R_far (p := ⟨Sb, 0, none⟩) h4 (fun _ hk => hk) u⟩, bR (p := ⟨Sb, 0, none⟩) h5 (show w.heap.size + 1 ≠ Sb by omega) _, below_set h6 (by omega)⟩⟩
 ·rintro acc s W ⟨_, h⟩
  exact HT.below h.below
 ·rintro acc x s rest W v ⟨h1, h2⟩ hl hS
  exact hY acc x s rest W v h1 h2 hl hS
set_option maxHeartbeats 8000000 in
set_option maxRecDepth 100000 in
theorem step_Scan.calls (k : Nat) (a0 : ByteArray) (r1 : List S24) (r2 : Int) (w : World) (h : step_Scan.f k a0 = some (r1, r2)) (HT : Tabs w) :
  Calls Tryd.prog 29 #[.string a0] w fun e w' => ∃ v1_ : Value, e = .returned (.tuple #[v1_, .int .i64 r2]) ∧ Kd.R k24 24 w' w.heap.size (fun _ => True) v1_ r1 ∧ Below w.heap.size w w' := by
 unfold step_Scan.f at h
 obtain ⟨⟨q1, q2⟩, h8, hh⟩ := Option.bind_eq_some_iff.1 h
 cases hh
 have H := Ax.mk h8
 have HW := Ax.mk HT
 clear h h8 HT
 refine (callsIn_wide (n := 5)).1 ?_
 refine callsIn_of_wp_marks Tryd.func29 rfl trivial ?_ rfl
 simp only [Tryd.ntmps29, List.size_toArray, List.length_cons, List.length_nil, Nat.reduceAdd, Nat.reduceSub, Array.replicate_succ, Array.replicate_zero, List.push_toArray, List.append_toArray, List.nil_append, List.cons_append]
 gi_wp2_with (refine ⟨trivial, ?_⟩; gi_at_call 59; refine (callsIn_wide.2 (step_Scan.records a0 _)).mono ?_; rintro e W2 ⟨rfl, rfl⟩)
 obtain ⟨W0, hW0⟩ : ∃ W0, ((w.alloc (.cells #[.slice none 0 0] 29)).alloc (.cells #[.string a0] 9)).alloc (.cells #[.string a0] 9) = W0 := ⟨_, rfl⟩
 have hz0 : W0.heap.size = w.heap.size + 3 := by rw [← hW0]; simp
 have hA0 : step_Scan.At w [] a0 (w.heap.size + 2) W0 := by
  rw [← hW0]
  refine ⟨⟨_, blk_alloc (blk_alloc (heap_alloc_new w _) _) _, Kd.R_nil _ _ _ _ _⟩, ?_, below_alloc (below_alloc (below_alloc (Below.refl _ _) _) _) _⟩
  have h1 := heap_alloc_new (w.alloc (.cells #[.slice none 0 0] 29)) (.cells #[.string a0] 9)
  rw [World.size_alloc] at h1
  exact blk_alloc h1 _
 have hS0 : W0.heap[w.heap.size + 2]? = some (.cells #[.string a0] 9 (0, 0)) := by
  rw [← hW0]
  have h1 := heap_alloc_new ((w.alloc (.cells #[.slice none 0 0] 29)).alloc (.cells #[.string a0] 9)) (.cells #[.string a0] 9)
  rwa [World.size_alloc, World.size_alloc] at h1
 rw [hW0]
 clear hW0
 refine rng_stmt (n := 4) (gf := 73) (lb := #[.pointer (some ⟨w.heap.size + 1 + 1, 0, none⟩)]) rfl (enters_of Tryd.func73 (by kernel_rfl) rfl) ?_
 intro fn W1 hb1 hr1
 refine (step_Scan.rounds (m := 4) (k := k) (Sb := w.heap.size + 2) (w := w) HW.out rfl (q1, q2) a0 H.out W1 hr1 (bB hS0 hb1) ⟨?_, bB hA0.left hb1, bP hA0.below hb1⟩ ?round).mono ?_
 ·obtain ⟨v, h1, h2⟩ := hA0.row
  exact ⟨v, bB h1 hb1, Kd.R_below h2 hb1⟩
 case round =>
  intro acc x s rest W v hr hA hl hS
  refine rng_round hr (by omega) rfl ?_
  intro K hK
  have HK := Lib.hid hK
  have HR := Ax.mk hr
  have HA := Ax.mk hA
  have HL := Ax.mk hl
  have HS := Ax.mk hS
  have HZ := Ax.mk hz0
  clear hK hr hA hl hS hA0 hS0 hr1 hb1 hz0
  gi_wp2
  refine HK.out _ _ (rng_others HR.out (KeepsOthers.alloc _ _)) ?_
  intro o Q hRb hQ
  have hlp : (W.alloc (.cells #[.int .i64 x.f0, .int .i64 x.f1, .int .i64 x.f2, .int .u64 x.f3, .string x.f4] 24)).heap[W0.heap.size + 1]? = some _ := (rng_others HR.out (KeepsOthers.alloc _ _)).loop
  have hA1 : step_Scan.At w acc s (w.heap.size + 2) (W.alloc (.cells #[.int .i64 x.f0, .int .i64 x.f1, .int .i64 x.f2, .int .u64 x.f3, .string x.f4] 24)) := by
   obtain ⟨⟨v, h1, h2⟩, h3, h4⟩ := HA.out
   exact ⟨⟨v, blk_alloc h1 _, Kd.R_below h2 (below_alloc (Below.refl _ _) _)⟩, blk_alloc h3 _, below_alloc h4 _⟩
  have hA5 := step_Scan.at_put hA1 hlp (by have := HZ.out; omega) o
  have hX5 := step_Scan.put_cells (heap_alloc_new W (.cells #[.int .i64 x.f0, .int .i64 x.f1, .int .i64 x.f2, .int .u64 x.f3, .string x.f4] 24)) hlp o
  have hS5 := step_Scan.put_cells (blk_alloc HS.out _) hlp o
  have hwW : w.heap.size + 2 < W.heap.size := (Array.getElem?_eq_some_iff.1 HS.out).1
  generalize (W.alloc (.cells #[.int .i64 x.f0, .int .i64 x.f1, .int .i64 x.f2, .int .u64 x.f3, .string x.f4] 24)).putObj (W0.heap.size + 1) o = W5 at hRb hQ hA5 hX5 hS5 ⊢
  clear hA1 hlp HR HA HS
  obtain ⟨⟨v1, hv1, hrow⟩, hleft, hbel⟩ := hA5
  have HQ := Lib.hid hQ
  have HRb := Ax.mk hRb
  have hc1 := (bC hv1 0).trans rfl
  have hc2 := (bC hX5 0).trans rfl
  have hc3 := (bC hX5 1).trans rfl
  have hc4 := (bC hX5 2).trans rfl
  have hc5 := (bC hX5 3).trans rfl
  have hc6 := (bC hX5 4).trans rfl
  have HV1 := Ax.mk hv1
  have HRow := Ax.mk hrow
  have HLeft := Ax.mk hleft
  have HBel := Ax.mk hbel
  have HX5 := Ax.mk hX5
  have HS5 := Ax.mk hS5
  clear hQ hRb hv1 hrow hleft hbel hX5 hS5
  refine wpIn_block ?_
  refine regIn_of_list _ _ (by kernel_rfl) ?_
  go_wp2_with (
   at_builtin
   refine Kd.R_append k24 (w0 := w) w.heap.size rfl (.tmp 13) (.tmp 15) 29 24 (.agg #[.int .i64 0, .int .i64 0, .int .i64 0, .int .u64 0, .string ⟨#[]⟩]) 48 rfl Tryd.underlying29 info24 rfl (by decide) (by omega) v1 acc x [.int .i64 x.f0, .int .i64 x.f1, .int .i64 x.f2, .int .u64 x.f3, .string x.f4] (fun b => b ≠ w.heap.size + 2) (fun _ => False) rfl rfl (k24_mkM _ _ _ x) (fun _ hk => hk.elim) (fun k hk => by have := (Array.getElem?_eq_some_iff.1 HS5.out).1; omega) HRow.out HBel.out HBel.out.size (by have := HL.out; omega) ?_
   intro v2 w6 ho hb hg hat
   obtain ⟨A2, c2, rfl⟩ := Kd.R_slice ho
   have hv2 := blk_grown HV1.out hg (Kd.R_ne HRow.out HV1.out (by decide))
   have hl2 := blk_grown HLeft.out hg (Kd.R_ne HRow.out HLeft.out (by decide))
   have hs2 := blk_grown HS5.out hg (Kd.R_ne HRow.out HS5.out (by decide))
   have hk2 : KeepsOthers W5 w6 := KeepsOthers.of_grownBy hg (fun j o hj ho => by
    obtain ⟨inner, hown⟩ := Kd.R_own HRow.out
    obtain ⟨cells, hcells⟩ := own_typed hown j hj
    rw [hcells] at ho
    cases ho
    rfl)
   have hg2 := bF hv2 0
   have hg3 := bF hl2 0
   have hd2 := (bC hv2 0).trans rfl
   have hd3 := (bC hl2 0).trans rfl
   have HV2 := Ax.mk hv2
   have HL2 := Ax.mk hl2
   have HS2 := Ax.mk hs2
   have HK2 := Ax.mk hk2
   have HRow2 := Ax.mk ho
   have HBel2 := Ax.mk hb
   clear hv2 hl2 hs2 hk2 ho hb hg hat hc1 hc2 hc3 hc4 hc5 hc6 HX5)
  have hsz : w.heap.size + 2 < w6.heap.size := (Array.getElem?_eq_some_iff.1 HS2.out).1
  have HRb6 := rng_others (rng_others (rng_others HRb.out HK2.out) (KeepsOthers.setCell _ ⟨w.heap.size, 0, none⟩ (.slice A2 (acc.length + 1) c2))) (KeepsOthers.setCell _ ⟨w.heap.size + 1, 0, none⟩ (.string rest))
  rw [List.length_append, List.length_singleton] at HRow2
  have hA8 : step_Scan.At w (acc ++ [x]) rest (w.heap.size + 2) ((w6.setCell ⟨w.heap.size, 0, none⟩ (.slice A2 (acc.length + 1) c2)).setCell ⟨w.heap.size + 1, 0, none⟩ (.string rest)) :=
   ⟨⟨_, bR (p := ⟨w.heap.size + 1, 0, none⟩) (step_Scan.set_box HV2.out _) (show w.heap.size ≠ w.heap.size + 1 by omega) _, Kd.R_set (Kd.R_set HRow2.out HV2.out (by decide) _ _) (bR (p := ⟨w.heap.size, 0, none⟩) HL2.out (show w.heap.size + 1 ≠ w.heap.size by omega) _) (by decide) _ _⟩,
    step_Scan.set_box (bR (p := ⟨w.heap.size, 0, none⟩) HL2.out (show w.heap.size + 1 ≠ w.heap.size by omega) _) _, below_set (below_set HBel2.out (Nat.le_refl _)) (by omega)⟩
  have hS8 := bR (p := ⟨w.heap.size + 1, 0, none⟩) (bR (p := ⟨w.heap.size, 0, none⟩) HS2.out (show w.heap.size + 2 ≠ w.heap.size by omega) (.slice A2 (acc.length + 1) c2)) (show w.heap.size + 2 ≠ w.heap.size + 1 by omega) (.string rest)
  refine HQ.out _ _ HRb6 (fun o hr => ⟨trivial, ⟨hr, step_Scan.at_put hA8 HRb6.loop (by have := HZ.out; omega) o⟩, step_Scan.put_cells hS8 HRb6.loop o⟩)
 ·rintro e W2 ⟨⟨v0, rfl⟩, hr2, hA2⟩
  refine ⟨⟨v0, rfl⟩, hr2, fun o => ?_⟩
  have hlt : W0.heap.size < W2.heap.size := (Array.getElem?_eq_some_iff.1 hr2.defs).1
  have hD := (World.putObj_heap_other (o := o) (show W0.heap.size ≠ W0.heap.size + 1 by omega)).trans hr2.defs
  obtain ⟨⟨v, hv, hrow⟩, hleft, hbel⟩ := step_Scan.at_put hA2 hr2.loop (by omega) o
  generalize W2.putObj (W0.heap.size + 1) o = W3 at hD hv hrow hleft hbel ⊢
  obtain ⟨A2, c2, rfl⟩ := Kd.R_slice hrow
  have hd1 : W3.drew.cell? ⟨w.heap.size, 0, none⟩ = some (.slice A2 q1.length c2) ∧ W3.drew.cell? ⟨w.heap.size + 1, 0, none⟩ = some (.string q2) := ⟨(bC hv 0).trans rfl, (bC hleft 0).trans rfl⟩
  have HD := Ax.mk hD
  have HRow := Ax.mk hrow
  have HBel := Ax.mk hbel
  have HZ := Ax.mk hz0
  have HZ3 : W0.heap.size < W3.heap.size := (Array.getElem?_eq_some_iff.1 hD).1
  clear hA0 hS0 hr1 hb1 hr2 hA2 hv hleft hD hrow hbel hlt hz0
  gi_wp2
  refine wpIn_wide.2 ?_
  go_region_held3 (fun V => V.cell? ⟨w.heap.size, 0, none⟩ = some (.slice A2 q1.length c2) ∧ V.cell? ⟨w.heap.size + 1, 0, none⟩ = some (.string q2)) (exact hd1) (fail)
  gi_wp2
  refine ⟨by simp, .inl ⟨_, _, rfl, run_takeDeferred (w := W3.drew) HD.out, ?_⟩⟩
  have hw : wrap64 ((a0.size : Int) - (q2.size : Int)) = IntKind.i64.wrap ((a0.size : Int) - (q2.size : Int)) := (i64_w _).symm
  rw [hw]
  refine ⟨_, results_tmp2 rfl _ _ _, _, rfl, Kd.R_mono (step_Scan.put_defs (Kd.R_drew HRow.out) HD.out) (fun _ _ => trivial), ?_⟩
  exact (below_drew1 HBel.out).trans (belowK_b (w := w) (Nat.le_refl _) W3.drew W0.heap.size _ _ (by have := HZ.out; omega) HD.out rfl rfl)
def r2_Get.l0 : Nat → ByteArray → Int → Int → Option (Int)
 | 0, _, _, _ => none
 | k + 1, x0, x3, x4 => if x4 ≥ 0 then (if 0 ≤ x4 then (if x4 < (x0.size : Int) then (r2_Get.l0 k x0 (IntKind.u64.wrap ((IntKind.u64.wrap (x3 * 256)) + (IntKind.u64.wrap (bt x0 x4)))) (wrap64 (x4 - 1))) else (none)) else (none)) else (some x3)
def r2_Get.f (k : Nat) (a0 : ByteArray) : Option (Int) := r2_Get.l0 k a0 0 ((mn (a0.size : Int) 8) - 1)
theorem r2_Get.mono_l : ∀ k, (∀ y0 y1 y2, LeO (r2_Get.l0 k y0 y1 y2) (r2_Get.l0 (k + 1) y0 y1 y2))
 | 0 => fun _ _ _ r h => by simp [r2_Get.l0] at h
 | k + 1 => by
  have ih0 := r2_Get.mono_l k
  ·intro y0 y1 y2
   unfold r2_Get.l0
   repeat' first
   | (with_reducible exact ih0 _ _ _)
   | (with_reducible exact LeO.refl _)
   | (with_reducible exact LeO.none _)
   | (with_reducible refine LeO.ite ?_ ?_)
   | (with_reducible refine LeO.bind ?_ (fun _ => ?_))
   | exact ih0 _ _ _
   | exact LeO.none _
   | refine LeO.ite ?_ ?_
   | refine LeO.bind ?_ (fun _ => ?_)
theorem r2_Get.mono : ∀ a0 k, LeO (r2_Get.f k a0) (r2_Get.f (k + 1) a0) := by
 intro a0 k
 have ih0 := r2_Get.mono_l k
 unfold r2_Get.f
 repeat' first
   | (with_reducible exact ih0 _ _ _)
   | (with_reducible exact LeO.refl _)
   | (with_reducible exact LeO.none _)
   | (with_reducible refine LeO.ite ?_ ?_)
   | (with_reducible refine LeO.bind ?_ (fun _ => ?_))
   | exact ih0 _ _ _
   | exact LeO.none _
   | refine LeO.ite ?_ ?_
   | refine LeO.bind ?_ (fun _ => ?_)
set_option maxHeartbeats 8000000 in
set_option maxRecDepth 100000 in
theorem r2_Get.calls (k : Nat) (a0 : ByteArray) (r : Int) (w : World) (h : r2_Get.f k a0 = some r) :
  Calls Tryd.prog 57 #[.string a0] w fun e w' => e = .returned (.int .u64 r) ∧ Below w.heap.size w w' := by
 have HB := Ax.mk (Below.refl w.heap.size w)
 have H : (r2_Get.l0 k a0 0 ((mn (a0.size : Int) 8) - 1)) = some r := h
 clear h
 obtain ⟨ji2, hji2⟩ : ∃ j_ : Int, (mn (a0.size : Int) 8) = j_ := ⟨_, rfl⟩
 replace H : (r2_Get.l0 k a0 0 ((ji2) - 1)) = some r := by first | (rw [hji2] at H; exact H) | (simp only [hji2] at H ⊢; exact H)
 (try (have hji2h : ji2 ≤ 8 := by (rw [← hji2]; unfold mn; (repeat' split) <;> omega)))
 (try (have hji2g : ji2 ≤ 64 := by omega))
 (try (have hji2l : 0 ≤ ji2 := by (rw [← hji2]; unfold mn; (repeat' split) <;> omega)))
 (try (have hji2m : 0 ≤ ji2 := by omega))
 have hji2_ : (if 8 < (a0.size : Int) then 8 else (a0.size : Int)) = ji2 := hji2
 have H' := Ax.mk H
 clear H
 go_enter Tryd.func57, Tryd.ntmps57
 go_wp2
 go_loopg [3, 4] k (fun kq v3 v4 w' => ∃ (x3_1 : Int) (x4_1 : Int), v3 = .int .u64 x3_1 ∧ v4 = .int .i64 x4_1 ∧ Ax (r2_Get.l0 kq a0 x3_1 x4_1 = some r) ∧ Ax (kq ≤ k) ∧ Ax (Below w.heap.size w w'))
 case atStart => exact ⟨(0), ((ji2) - 1), (by first | rfl | (simp; done) | (simp [*]; done)), (by first | rfl | (simp; done) | (simp only [← hji2] <;> (first | rfl | simp)) | (simp [*]; done)), H', ⟨Nat.le_refl _⟩, ⟨bA⟩⟩
 case round =>
  clear H'
  try clear p2
  obtain ⟨x3_1, x4_1, rfl, rfl, HA, HK1, HB⟩ := hrel
  cases gk with
  | zero => exact absurd HA.out (by simp [r2_Get.l0])
  | succ k1 =>
   have H := HA.out
   clear HA
   simp only [r2_Get.l0] at H
   by_cases c3 : x4_1 ≥ 0
   ·rw [if_pos c3] at H
    have c3b0 : decide (0 ≤ x4_1) = true := decide_eq_true c3
    clear c3
    by_cases c4 : 0 ≤ x4_1
    ·rw [if_pos c4] at H
     have c4b0 : decide (0 ≤ x4_1) = true := decide_eq_true c4
     clear c4
     by_cases c5 : x4_1 < (a0.size : Int)
     ·rw [if_pos c5] at H
      have c5b0 : decide (x4_1 < (a0.size : Int)) = true := decide_eq_true c5
      clear c5
      have H' := Ax.mk H
      clear H
      have p6 : 0 ≤ (x4_1 : Int) := ofD
      have q6 : x4_1 < (a0.size : Int) := ofD
      have hx6 := bt_at a0 x4_1
      replace p6 := eq_true p6
      replace q6 := eq_true q6
      go_wp2
      go_roundg k1
      case measure => have := HK1.out; omega
      case rel => exact ⟨(IntKind.u64.wrap ((IntKind.u64.wrap (x3_1 * 256)) + (IntKind.u64.wrap (bt a0 x4_1)))), (wrap64 (x4_1 - 1)), (by first | rfl | (simp; done) | (simp [*]; done)), (by first | rfl | (simp; done) | (simp [*]; done)), H', ⟨by have := HK1.out; omega⟩, ⟨bA⟩⟩
     ·rw [if_neg c5] at H
      exact absurd H (by simp)
    ·rw [if_neg c4] at H
     exact absurd H (by simp)
   ·rw [if_neg c3] at H
    have c3b0 : decide (0 ≤ x4_1) = false := decide_eq_false c3
    clear c3
    obtain rfl := Option.some.inj H
    go_wp2
    go_ret
    exact ⟨by first | rfl | (simp [errW_none, errW_some] <;> rfl) | (simp only [← hji2]; first | rfl | (simp [errW_none, errW_some] <;> rfl)) | (simp [*, errW_none, errW_some] <;> rfl), bA⟩
def r3_Take.f (k : Nat) (a0 : ByteArray) : Option (ByteArray × Int) := if (a0.size : Int) < 4 then (some ((⟨#[]⟩ : ByteArray), 10)) else (if 0 ≤ (wrap64 ((a0.size : Int) - 4)) then (if (wrap64 ((a0.size : Int) - 4)) ≤ (a0.size : Int) then ((r3_Put.f k (a0.extract 0 ((wrap64 ((a0.size : Int) - 4)) : Int).toNat)).bind fun t267 => (if t267.toList = a0.toList then (some (a0.extract 0 ((wrap64 ((a0.size : Int) - 4)) : Int).toNat, 0)) else (some ((⟨#[]⟩ : ByteArray), 9)))) else (none)) else (none))
theorem r3_Take.mono : ∀ a0 k, LeO (r3_Take.f k a0) (r3_Take.f (k + 1) a0) := by
 intro a0 k
 unfold r3_Take.f
 repeat' first
   | (with_reducible exact r3_Put.mono _ _)
   | (with_reducible exact LeO.refl _)
   | (with_reducible exact LeO.none _)
   | (with_reducible refine LeO.ite ?_ ?_)
   | (with_reducible refine LeO.bind ?_ (fun _ => ?_))
   | exact r3_Put.mono _ _
   | exact LeO.none _
   | refine LeO.ite ?_ ?_
   | refine LeO.bind ?_ (fun _ => ?_)
set_option maxHeartbeats 8000000 in
set_option maxRecDepth 100000 in
theorem r3_Take.calls (k : Nat) (a0 : ByteArray) (r1 : ByteArray) (r2 : Int) (w : World) (h : r3_Take.f k a0 = some (r1, r2)) :
  Calls Tryd.prog 58 #[.string a0] w fun e w' => e = .returned (.tuple #[.string r1, .int .i64 r2]) ∧ Below w.heap.size w w' := by
 have HB := Ax.mk (Below.refl w.heap.size w)
 have H : (if (a0.size : Int) < 4 then (some ((⟨#[]⟩ : ByteArray), 10)) else (if 0 ≤ (wrap64 ((a0.size : Int) - 4)) then (if (wrap64 ((a0.size : Int) - 4)) ≤ (a0.size : Int) then ((r3_Put.f k (a0.extract 0 ((wrap64 ((a0.size : Int) - 4)) : Int).toNat)).bind fun t267 => (if t267.toList = a0.toList then (some (a0.extract 0 ((wrap64 ((a0.size : Int) - 4)) : Int).toNat, 0)) else (some ((⟨#[]⟩ : ByteArray), 9)))) else (none)) else (none))) = some (r1, r2) := h
 clear h
 by_cases c2 : (a0.size : Int) < 4
 ·rw [if_pos c2] at H
  have c2b0 : decide ((a0.size : Int) < 4) = true := decide_eq_true c2
  have c2b1 : decide (a0.size < 4) = true := decide_eq_true (by omega)
  clear c2
  simp only [Option.some.injEq, Prod.mk.injEq] at H
  obtain ⟨rfl, rfl⟩ := H
  go_enter Tryd.func58, Tryd.ntmps58
  go_wp2
  go_ret2
  exact ⟨by first | rfl | (simp [errW_none, errW_some] <;> rfl) | (simp [*, errW_none, errW_some] <;> rfl), bA⟩
 ·rw [if_neg c2] at H
  have c2b0 : decide ((a0.size : Int) < 4) = false := decide_eq_false c2
  have c2b1 : decide (a0.size < 4) = false := decide_eq_false (by omega)
  clear c2
  obtain ⟨ji3, hji3⟩ : ∃ j_ : Int, (wrap64 ((a0.size : Int) - 4)) = j_ := ⟨_, rfl⟩
  replace H : (if 0 ≤ (ji3) then (if (ji3) ≤ (a0.size : Int) then ((r3_Put.f k (a0.extract 0 ((ji3) : Int).toNat)).bind fun t267 => (if t267.toList = a0.toList then (some (a0.extract 0 ((ji3) : Int).toNat, 0)) else (some ((⟨#[]⟩ : ByteArray), 9)))) else (none)) else (none)) = some (r1, r2) := by first | (rw [hji3] at H; exact H) | (simp only [hji3] at H ⊢; exact H)
  have hji3w : (IntKind.i64.wrap ((a0.size : Int) - 4)) = ji3 := (i64_w _).trans hji3
  by_cases c4 : 0 ≤ (ji3)
  ·rw [if_pos c4] at H
   have c4b0 := eq_true c4
   have c4b1 : decide (0 ≤ (ji3)) = true := decide_eq_true c4
   clear c4
   by_cases c5 : (ji3) ≤ (a0.size : Int)
   ·rw [if_pos c5] at H
    have c5b0 := eq_true c5
    have c5b1 : decide ((ji3) ≤ (a0.size : Int)) = true := decide_eq_true c5
    clear c5
    replace H := Option.bind_eq_some_iff.mp H
    obtain ⟨t267, A60, H⟩ := H
    replace H : (if t267.toList = a0.toList then (some (a0.extract 0 ((ji3) : Int).toNat, 0)) else (some ((⟨#[]⟩ : ByteArray), 9))) = some (r1, r2) := H
    have A6 := Ax.mk A60
    clear A60
    by_cases c7 : t267.toList = a0.toList
    ·rw [if_pos c7] at H
     have c7b0 : (t267.toList == a0.toList) = true := beq_iff_eq.mpr c7
     have c7b1 : (t267.toList != a0.toList) = false := bne_eq_false_iff_eq.mpr c7
     clear c7
     simp only [Option.some.injEq, Prod.mk.injEq] at H
     obtain ⟨rfl, rfl⟩ := H
     go_enter Tryd.func58, Tryd.ntmps58
     go_wp2_with (first | ((with_reducible refine gate_callee (f := 48) rfl ?_); refine goesL_ (some 14) rfl rfl Tryd.func48 (by kernel_rfl) rfl #[.string (a0.extract 0 ((ji3) : Int).toNat)] rfl (by (try simp only [List.map_toArray, List.map_cons, List.map_nil]); first | done | (simp only [hji3]; rfl) | rfl | (simp only [List.length_drop, List.length_take]; rfl) | (rw [wrap_sum2 (by assumption)]; rfl)) ?_; (with_reducible refine (r3_Put.calls k (a0.extract 0 ((ji3) : Int).toNat) t267 _ A6.out).mono ?_); rintro e w8 ⟨rfl, hb⟩; refine ⟨_, rfl, ?_⟩; have n0_ := Ax.mk (bP bA hb); clear HB; have HB := n0_; clear n0_; (try clear hb); (try clear hb2); (try clear hk); (try clear hi)))
     go_ret2
     exact ⟨by first | rfl | (simp [errW_none, errW_some] <;> rfl) | (simp only [← hji3]; first | rfl | (simp [errW_none, errW_some] <;> rfl)) | (simp [*, errW_none, errW_some] <;> rfl), bA⟩
    ·rw [if_neg c7] at H
     have c7b0 : (t267.toList == a0.toList) = false := beq_eq_false_iff_ne.mpr c7
     have c7b1 : (t267.toList != a0.toList) = true := bne_iff_ne.mpr c7
     simp only [Option.some.injEq, Prod.mk.injEq] at H
     obtain ⟨rfl, rfl⟩ := H
     go_enter Tryd.func58, Tryd.ntmps58
     go_wp2_with (first | ((with_reducible refine gate_callee (f := 48) rfl ?_); refine goesL_ (some 14) rfl rfl Tryd.func48 (by kernel_rfl) rfl #[.string (a0.extract 0 ((ji3) : Int).toNat)] rfl (by (try simp only [List.map_toArray, List.map_cons, List.map_nil]); first | done | (simp only [hji3]; rfl) | rfl | (simp only [List.length_drop, List.length_take]; rfl) | (rw [wrap_sum2 (by assumption)]; rfl)) ?_; (with_reducible refine (r3_Put.calls k (a0.extract 0 ((ji3) : Int).toNat) t267 _ A6.out).mono ?_); rintro e w9 ⟨rfl, hb⟩; refine ⟨_, rfl, ?_⟩; have n0_ := Ax.mk (bP bA hb); clear HB; have HB := n0_; clear n0_; (try clear hb); (try clear hb2); (try clear hk); (try clear hi)))
     go_ret2
     exact ⟨by first | rfl | (simp [errW_none, errW_some] <;> rfl) | (simp only [← hji3]; first | rfl | (simp [errW_none, errW_some] <;> rfl)) | (simp [*, errW_none, errW_some] <;> rfl), bA⟩
   ·rw [if_neg c5] at H
    exact absurd H (by simp)
  ·rw [if_neg c4] at H
   exact absurd H (by simp)
def r12_Take.f (k : Nat) (a0 : ByteArray) : Option (Int × Int × Int × Int × ByteArray × ByteArray × Int) := if (a0.size : Int) < 2 then (some (0, 0, 0, 0, (⟨#[]⟩ : ByteArray), (⟨#[]⟩ : ByteArray), 10)) else (if 0 ≤ 2 then (if 2 ≤ (a0.size : Int) then ((r2_Get.f k (a0.extract 0 2)).bind fun t269 => (if (a0.size : Int) < (wrap64 (2 + (wrap64 (t269)))) then (some (0, 0, 0, 0, (⟨#[]⟩ : ByteArray), (⟨#[]⟩ : ByteArray), 10)) else (if 2 ≤ (wrap64 (2 + (wrap64 (t269)))) then (if (wrap64 (2 + (wrap64 (t269)))) ≤ (a0.size : Int) then ((r3_Take.f k (a0.extract 2 ((wrap64 (2 + (wrap64 (t269)))) : Int).toNat)).bind fun bt270 => (if bt270.2 = 0 then (if (bt270.1.size : Int) < 17 then (some (0, 0, 0, 0, (⟨#[]⟩ : ByteArray), (⟨#[]⟩ : ByteArray), 2)) else (if 0 < (bt270.1.size : Int) then (if 1 ≤ 5 then (if 5 ≤ (bt270.1.size : Int) then ((r2_Get.f k (bt270.1.extract 1 5)).bind fun t272 => (if 5 ≤ 9 then (if 9 ≤ (bt270.1.size : Int) then ((r2_Get.f k (bt270.1.extract 5 9)).bind fun t273 => (if 9 ≤ 17 then (if 17 ≤ (bt270.1.size : Int) then ((r2_Get.f k (bt270.1.extract 9 17)).bind fun t274 => ((r12_Put.f k (wrap64 (bt bt270.1 0)) (wrap64 (t272)) (wrap64 (t273)) t274 (bt270.1.extract 17 bt270.1.size)).bind fun bt276 => (if bt276.2 = 0 then (if 0 ≤ (wrap64 (2 + (wrap64 (t269)))) then (if bt276.1.toList = (a0.extract 0 ((wrap64 (2 + (wrap64 (t269)))) : Int).toNat).toList then (some (wrap64 (bt bt270.1 0), wrap64 (t272), wrap64 (t273), t274, bt270.1.extract 17 bt270.1.size, a0.extract ((wrap64 (2 + (wrap64 (t269)))) : Int).toNat a0.size, 0)) else (some (0, 0, 0, 0, (⟨#[]⟩ : ByteArray), (⟨#[]⟩ : ByteArray), 2))) else (none)) else (some (0, 0, 0, 0, (⟨#[]⟩ : ByteArray), (⟨#[]⟩ : ByteArray), 2))))) else (none)) else (none))) else (none)) else (none))) else (none)) else (none)) else (none))) else (some (0, 0, 0, 0, (⟨#[]⟩ : ByteArray), (⟨#[]⟩ : ByteArray), bt270.2)))) else (none)) else (none)))) else (none)) else (none))
theorem r12_Take.mono : ∀ a0 k, LeO (r12_Take.f k a0) (r12_Take.f (k + 1) a0) := by
 intro a0 k
 unfold r12_Take.f
 repeat' first
   | (with_reducible exact r12_Put.mono _ _ _ _ _ _)
   | (with_reducible exact r2_Get.mono _ _)
   | (with_reducible exact r3_Take.mono _ _)
   | (with_reducible exact LeO.refl _)
   | (with_reducible exact LeO.none _)
   | (with_reducible refine LeO.ite ?_ ?_)
   | (with_reducible refine LeO.bind ?_ (fun _ => ?_))
   | exact r12_Put.mono _ _ _ _ _ _
   | exact r2_Get.mono _ _
   | exact r3_Take.mono _ _
   | exact LeO.none _
   | refine LeO.ite ?_ ?_
   | refine LeO.bind ?_ (fun _ => ?_)
def r12_Take.T11 : Bool × List (List Nat × List Nat) := (true, [([], []), ([0], [0]), ([1], [1]), ([], []), ([3], [3]), ([4], [4]), ([5], [5]), ([], []), ([7], [7]), ([8, 5], [8]), ([9], [9]), ([], []), ([11], [11]), ([12, 9], [12]), ([], []), ([14], [14]), ([2, 6, 10, 13, 15], [2, 6, 10, 13, 15]), ([], []), ([17, 16, 13, 0, 1, 2, 3, 4, 5, 6, 7, 8, 9, 10, 11, 12, 13, 14, 15, 16, 17], [16, 17])])
def r12_Take.B11 : List Nat := [0, 1, 3, 0, 8, 24, 56, 0, 128, 440, 952, 0, 2048, 7096, 0, 16384, 65535, 0, 262143]
theorem r12_Take.tab11 : rtab .any (opsOf Tryd.f28 11) = r12_Take.T11 := by kernel_rfl
theorem r12_Take.bits11 : waitsOk r12_Take.T11.2 r12_Take.B11 = true := by kernel_rfl
def r12_Take.T15 : Bool × List (List Nat × List Nat) := (true, [([], []), ([], []), ([], []), ([2], [2]), ([1, 3], [1, 3]), ([0, 0], [0]), ([4, 5, 0, 1, 2, 3, 4, 5], [4]), ([6, 0, 1, 2, 3, 4, 5, 6], [])])
def r12_Take.B15 : List Nat := [0, 0, 0, 4, 14, 1, 63, 127]
theorem r12_Take.tab15 : rtab .any (opsOf Tryd.f28 15) = r12_Take.T15 := by kernel_rfl
theorem r12_Take.bits15 : waitsOk r12_Take.T15.2 r12_Take.B15 = true := by kernel_rfl
set_option maxHeartbeats 8000000 in
set_option maxRecDepth 100000 in
theorem r12_Take.calls (k : Nat) (a0 : ByteArray) (r1 : Int) (r2 : Int) (r3 : Int) (r4 : Int) (r5 : ByteArray) (r6 : ByteArray) (r7 : Int) (w : World) (h : r12_Take.f k a0 = some (r1, r2, r3, r4, r5, r6, r7)) :
  Calls Tryd.prog 28 #[.string a0] w fun e w' => e = .returned (.tuple #[.agg #[.int .i64 r1, .int .i64 r2, .int .i64 r3, .int .u64 r4, .string r5], .string r6, .int .i64 r7]) ∧ Below w.heap.size w w' := by
 have hu26 := Tryd.underlying26
 have HB := Ax.mk (Below.refl w.heap.size w)
 have H : (if (a0.size : Int) < 2 then (some (0, 0, 0, 0, (⟨#[]⟩ : ByteArray), (⟨#[]⟩ : ByteArray), 10)) else (if 0 ≤ 2 then (if 2 ≤ (a0.size : Int) then ((r2_Get.f k (a0.extract 0 2)).bind fun t269 => (if (a0.size : Int) < (wrap64 (2 + (wrap64 (t269)))) then (some (0, 0, 0, 0, (⟨#[]⟩ : ByteArray), (⟨#[]⟩ : ByteArray), 10)) else (if 2 ≤ (wrap64 (2 + (wrap64 (t269)))) then (if (wrap64 (2 + (wrap64 (t269)))) ≤ (a0.size : Int) then ((r3_Take.f k (a0.extract 2 ((wrap64 (2 + (wrap64 (t269)))) : Int).toNat)).bind fun bt270 => (if bt270.2 = 0 then (if (bt270.1.size : Int) < 17 then (some (0, 0, 0, 0, (⟨#[]⟩ : ByteArray), (⟨#[]⟩ : ByteArray), 2)) else (if 0 < (bt270.1.size : Int) then (if 1 ≤ 5 then (if 5 ≤ (bt270.1.size : Int) then ((r2_Get.f k (bt270.1.extract 1 5)).bind fun t272 => (if 5 ≤ 9 then (if 9 ≤ (bt270.1.size : Int) then ((r2_Get.f k (bt270.1.extract 5 9)).bind fun t273 => (if 9 ≤ 17 then (if 17 ≤ (bt270.1.size : Int) then ((r2_Get.f k (bt270.1.extract 9 17)).bind fun t274 => ((r12_Put.f k (wrap64 (bt bt270.1 0)) (wrap64 (t272)) (wrap64 (t273)) t274 (bt270.1.extract 17 bt270.1.size)).bind fun bt276 => (if bt276.2 = 0 then (if 0 ≤ (wrap64 (2 + (wrap64 (t269)))) then (if bt276.1.toList = (a0.extract 0 ((wrap64 (2 + (wrap64 (t269)))) : Int).toNat).toList then (some (wrap64 (bt bt270.1 0), wrap64 (t272), wrap64 (t273), t274, bt270.1.extract 17 bt270.1.size, a0.extract ((wrap64 (2 + (wrap64 (t269)))) : Int).toNat a0.size, 0)) else (some (0, 0, 0, 0, (⟨#[]⟩ : ByteArray), (⟨#[]⟩ : ByteArray), 2))) else (none)) else (some (0, 0, 0, 0, (⟨#[]⟩ : ByteArray), (⟨#[]⟩ : ByteArray), 2))))) else (none)) else (none))) else (none)) else (none))) else (none)) else (none)) else (none))) else (some (0, 0, 0, 0, (⟨#[]⟩ : ByteArray), (⟨#[]⟩ : ByteArray), bt270.2)))) else (none)) else (none)))) else (none)) else (none))) = some (r1, r2, r3, r4, r5, r6, r7) := h
 clear h
 by_cases c2 : (a0.size : Int) < 2
 ·rw [if_pos c2] at H
  have c2b0 : decide ((a0.size : Int) < 2) = true := decide_eq_true c2
  have c2b1 : decide (a0.size < 2) = true := decide_eq_true (by omega)
  clear c2
  simp only [Option.some.injEq, Prod.mk.injEq] at H
  obtain ⟨rfl, rfl, rfl, rfl, rfl, rfl, rfl⟩ := H
  go_enter Tryd.func28, Tryd.ntmps28
  go_wp2_with (first | ((with_reducible refine gate_dst (N := 2) rfl ?_); refine box_event ?hg (N := 2) ?hd (cs := #[.int .i64 0, .int .i64 0, .int .i64 0, .int .u64 0, .string (⟨#[]⟩ : ByteArray)]) (t := 26) ?hr ?_; (case hd => rfl); (case hg => rfl); (case hr => first | (go_simp; done) | (go_simp; rfl)); intro gb268 hg w3 hbox hb; have n0_ := Ax.mk (bP bA hb); have n1_ := Ax.mk (hbox); have n2_ := Ax.mk ((ge_new hg : w.heap.size ≤ gb268)); have n3_ := n2_; clear HB; have HB := n0_; have BK268 := n1_; have GW268 := n2_; have GE268 := n3_; clear n0_ n1_ n2_ n3_; clear hb hbox hg; have hcz4_0 : w3.cell? ⟨gb268, 0, none⟩ = some (.int .i64 0) := (bC BK268.out 0).trans rfl; have hcz4_1 : w3.cell? ⟨gb268, 1, none⟩ = some (.int .i64 0) := (bC BK268.out 1).trans rfl; have hcz4_2 : w3.cell? ⟨gb268, 2, none⟩ = some (.int .i64 0) := (bC BK268.out 2).trans rfl; have hcz4_3 : w3.cell? ⟨gb268, 3, none⟩ = some (.int .u64 0) := (bC BK268.out 3).trans rfl; have hcz4_4 : w3.cell? ⟨gb268, 4, none⟩ = some (.string (⟨#[]⟩ : ByteArray)) := (bC BK268.out 4).trans rfl; have hfz4_0 := bF BK268.out 0; have hfz4_1 := bF BK268.out 1; have hfz4_2 := bF BK268.out 2; have hfz4_3 := bF BK268.out 3; have hfz4_4 := bF BK268.out 4))
  refine bodyPost_ret (results_ctt rfl _ _ gb268 26 #[.int .i64 0, .int .i64 0, .int .i64 0, .int .u64 0, .string (⟨#[]⟩ : ByteArray)] (0, 0) _ rfl (by refine bT ?_; refine bU (cs := #[.int .i64 0, .int .i64 0, .int .i64 0, .int .u64 0, .string (⟨#[]⟩ : ByteArray)]) ?_ 4 _ rfl; refine bT ?_; refine bU (cs := #[.int .i64 0, .int .i64 0, .int .i64 0, .int .u64 0, .string (⟨#[]⟩ : ByteArray)]) ?_ 3 _ rfl; refine bT ?_; refine bU (cs := #[.int .i64 0, .int .i64 0, .int .i64 0, .int .u64 0, .string (⟨#[]⟩ : ByteArray)]) ?_ 2 _ rfl; refine bT ?_; refine bU (cs := #[.int .i64 0, .int .i64 0, .int .i64 0, .int .u64 0, .string (⟨#[]⟩ : ByteArray)]) ?_ 1 _ rfl; refine bT ?_; refine bU (cs := #[.int .i64 0, .int .i64 0, .int .i64 0, .int .u64 0, .string (⟨#[]⟩ : ByteArray)]) ?_ 0 _ rfl; exact bT BK268.out) Tryd.underlying26 rfl (by kernel_rfl)) rfl ?_
  exact ⟨by first | rfl | (simp [errW_none, errW_some] <;> rfl) | (simp [*, errW_none, errW_some] <;> rfl), bA⟩
 ·rw [if_neg c2] at H
  have c2b0 : decide ((a0.size : Int) < 2) = false := decide_eq_false c2
  have c2b1 : decide (a0.size < 2) = false := decide_eq_false (by omega)
  clear c2
  by_cases c5 : 0 ≤ 2
  ·rw [if_pos c5] at H
   have c5b0 := eq_true c5
   have c5b1 : decide (0 ≤ 2) = true := decide_eq_true c5
   clear c5
   by_cases c6 : 2 ≤ (a0.size : Int)
   ·rw [if_pos c6] at H
    have c6b0 := eq_true c6
    have c6b1 : decide (2 ≤ (a0.size : Int)) = true := decide_eq_true c6
    clear c6
    replace H := Option.bind_eq_some_iff.mp H
    obtain ⟨t269, A70, H⟩ := H
    replace H : (if (a0.size : Int) < (wrap64 (2 + (wrap64 (t269)))) then (some (0, 0, 0, 0, (⟨#[]⟩ : ByteArray), (⟨#[]⟩ : ByteArray), 10)) else (if 2 ≤ (wrap64 (2 + (wrap64 (t269)))) then (if (wrap64 (2 + (wrap64 (t269)))) ≤ (a0.size : Int) then ((r3_Take.f k (a0.extract 2 ((wrap64 (2 + (wrap64 (t269)))) : Int).toNat)).bind fun bt270 => (if bt270.2 = 0 then (if (bt270.1.size : Int) < 17 then (some (0, 0, 0, 0, (⟨#[]⟩ : ByteArray), (⟨#[]⟩ : ByteArray), 2)) else (if 0 < (bt270.1.size : Int) then (if 1 ≤ 5 then (if 5 ≤ (bt270.1.size : Int) then ((r2_Get.f k (bt270.1.extract 1 5)).bind fun t272 => (if 5 ≤ 9 then (if 9 ≤ (bt270.1.size : Int) then ((r2_Get.f k (bt270.1.extract 5 9)).bind fun t273 => (if 9 ≤ 17 then (if 17 ≤ (bt270.1.size : Int) then ((r2_Get.f k (bt270.1.extract 9 17)).bind fun t274 => ((r12_Put.f k (wrap64 (bt bt270.1 0)) (wrap64 (t272)) (wrap64 (t273)) t274 (bt270.1.extract 17 bt270.1.size)).bind fun bt276 => (if bt276.2 = 0 then (if 0 ≤ (wrap64 (2 + (wrap64 (t269)))) then (if bt276.1.toList = (a0.extract 0 ((wrap64 (2 + (wrap64 (t269)))) : Int).toNat).toList then (some (wrap64 (bt bt270.1 0), wrap64 (t272), wrap64 (t273), t274, bt270.1.extract 17 bt270.1.size, a0.extract ((wrap64 (2 + (wrap64 (t269)))) : Int).toNat a0.size, 0)) else (some (0, 0, 0, 0, (⟨#[]⟩ : ByteArray), (⟨#[]⟩ : ByteArray), 2))) else (none)) else (some (0, 0, 0, 0, (⟨#[]⟩ : ByteArray), (⟨#[]⟩ : ByteArray), 2))))) else (none)) else (none))) else (none)) else (none))) else (none)) else (none)) else (none))) else (some (0, 0, 0, 0, (⟨#[]⟩ : ByteArray), (⟨#[]⟩ : ByteArray), bt270.2)))) else (none)) else (none))) = some (r1, r2, r3, r4, r5, r6, r7) := H
    have A7 := Ax.mk A70
    clear A70
    by_cases c8 : (a0.size : Int) < (wrap64 (2 + (wrap64 (t269))))
    ·rw [if_pos c8] at H
     have c8b0 : decide ((a0.size : Int) < (wrap64 (2 + (wrap64 (t269))))) = true := decide_eq_true c8
     clear c8
     simp only [Option.some.injEq, Prod.mk.injEq] at H
     obtain ⟨rfl, rfl, rfl, rfl, rfl, rfl, rfl⟩ := H
     go_enter Tryd.func28, Tryd.ntmps28
     go_wp2_with (first | ((with_reducible refine gate_dst (N := 2) rfl ?_); refine box_event ?hg (N := 2) ?hd (cs := #[.int .i64 0, .int .i64 0, .int .i64 0, .int .u64 0, .string (⟨#[]⟩ : ByteArray)]) (t := 26) ?hr ?_; (case hd => rfl); (case hg => rfl); (case hr => first | (go_simp; done) | (go_simp; rfl)); intro gb268 hg w9 hbox hb; have n0_ := Ax.mk (bP bA hb); have n1_ := Ax.mk (hbox); have n2_ := Ax.mk ((ge_new hg : w.heap.size ≤ gb268)); have n3_ := n2_; clear HB; have HB := n0_; have BK268 := n1_; have GW268 := n2_; have GE268 := n3_; clear n0_ n1_ n2_ n3_; clear hb hbox hg) | ((with_reducible refine gate_callee (f := 57) rfl ?_); refine goesL_ (some 17) rfl rfl Tryd.func57 (by kernel_rfl) rfl #[.string (a0.extract 0 2)] rfl (by (try simp only [List.map_toArray, List.map_cons, List.map_nil]); first | done | rfl | (simp only [List.length_drop, List.length_take]; rfl) | (rw [wrap_sum2 (by assumption)]; rfl)) ?_; (with_reducible refine (r2_Get.calls k (a0.extract 0 2) t269 _ A7.out).mono ?_); rintro e w10 ⟨rfl, hb⟩; refine ⟨_, rfl, ?_⟩; have n0_ := Ax.mk (bB (bT BK268.out) hb); have n1_ := Ax.mk (bP bA hb); clear BK268; clear HB; have BK268 := n0_; have HB := n1_; clear n0_ n1_; (try clear hb); (try clear hb2); (try clear hk); (try clear hi); have hcz11_0 : w10.cell? ⟨gb268, 0, none⟩ = some (.int .i64 0) := (bC BK268.out 0).trans rfl; have hcz11_1 : w10.cell? ⟨gb268, 1, none⟩ = some (.int .i64 0) := (bC BK268.out 1).trans rfl; have hcz11_2 : w10.cell? ⟨gb268, 2, none⟩ = some (.int .i64 0) := (bC BK268.out 2).trans rfl; have hcz11_3 : w10.cell? ⟨gb268, 3, none⟩ = some (.int .u64 0) := (bC BK268.out 3).trans rfl; have hcz11_4 : w10.cell? ⟨gb268, 4, none⟩ = some (.string (⟨#[]⟩ : ByteArray)) := (bC BK268.out 4).trans rfl; have hfz11_0 := bF BK268.out 0; have hfz11_1 := bF BK268.out 1; have hfz11_2 := bF BK268.out 2; have hfz11_3 := bF BK268.out 3; have hfz11_4 := bF BK268.out 4))
     refine bodyPost_ret (results_ctt rfl _ _ gb268 26 #[.int .i64 0, .int .i64 0, .int .i64 0, .int .u64 0, .string (⟨#[]⟩ : ByteArray)] (0, 0) _ rfl (by refine bT ?_; refine bU (cs := #[.int .i64 0, .int .i64 0, .int .i64 0, .int .u64 0, .string (⟨#[]⟩ : ByteArray)]) ?_ 4 _ rfl; refine bT ?_; refine bU (cs := #[.int .i64 0, .int .i64 0, .int .i64 0, .int .u64 0, .string (⟨#[]⟩ : ByteArray)]) ?_ 3 _ rfl; refine bT ?_; refine bU (cs := #[.int .i64 0, .int .i64 0, .int .i64 0, .int .u64 0, .string (⟨#[]⟩ : ByteArray)]) ?_ 2 _ rfl; refine bT ?_; refine bU (cs := #[.int .i64 0, .int .i64 0, .int .i64 0, .int .u64 0, .string (⟨#[]⟩ : ByteArray)]) ?_ 1 _ rfl; refine bT ?_; refine bU (cs := #[.int .i64 0, .int .i64 0, .int .i64 0, .int .u64 0, .string (⟨#[]⟩ : ByteArray)]) ?_ 0 _ rfl; exact bT BK268.out) Tryd.underlying26 rfl (by kernel_rfl)) rfl ?_
     exact ⟨by first | rfl | (simp [errW_none, errW_some] <;> rfl) | (simp [*, errW_none, errW_some] <;> rfl), bA⟩
    ·rw [if_neg c8] at H
     have c8b0 : decide ((a0.size : Int) < (wrap64 (2 + (wrap64 (t269))))) = false := decide_eq_false c8
     clear c8
     by_cases c12 : 2 ≤ (wrap64 (2 + (wrap64 (t269))))
     ·rw [if_pos c12] at H
      have c12b0 := eq_true c12
      have c12b1 : decide (2 ≤ (wrap64 (2 + (wrap64 (t269))))) = true := decide_eq_true c12
      by_cases c13 : (wrap64 (2 + (wrap64 (t269)))) ≤ (a0.size : Int)
      ·rw [if_pos c13] at H
       have c13b0 := eq_true c13
       have c13b1 : decide ((wrap64 (2 + (wrap64 (t269)))) ≤ (a0.size : Int)) = true := decide_eq_true c13
       replace H := Option.bind_eq_some_iff.mp H
       obtain ⟨⟨t270, t271⟩, A140, H⟩ := H
       replace H : (if t271 = 0 then (if (t270.size : Int) < 17 then (some (0, 0, 0, 0, (⟨#[]⟩ : ByteArray), (⟨#[]⟩ : ByteArray), 2)) else (if 0 < (t270.size : Int) then (if 1 ≤ 5 then (if 5 ≤ (t270.size : Int) then ((r2_Get.f k (t270.extract 1 5)).bind fun t272 => (if 5 ≤ 9 then (if 9 ≤ (t270.size : Int) then ((r2_Get.f k (t270.extract 5 9)).bind fun t273 => (if 9 ≤ 17 then (if 17 ≤ (t270.size : Int) then ((r2_Get.f k (t270.extract 9 17)).bind fun t274 => ((r12_Put.f k (wrap64 (bt t270 0)) (wrap64 (t272)) (wrap64 (t273)) t274 (t270.extract 17 t270.size)).bind fun bt276 => (if bt276.2 = 0 then (if 0 ≤ (wrap64 (2 + (wrap64 (t269)))) then (if bt276.1.toList = (a0.extract 0 ((wrap64 (2 + (wrap64 (t269)))) : Int).toNat).toList then (some (wrap64 (bt t270 0), wrap64 (t272), wrap64 (t273), t274, t270.extract 17 t270.size, a0.extract ((wrap64 (2 + (wrap64 (t269)))) : Int).toNat a0.size, 0)) else (some (0, 0, 0, 0, (⟨#[]⟩ : ByteArray), (⟨#[]⟩ : ByteArray), 2))) else (none)) else (some (0, 0, 0, 0, (⟨#[]⟩ : ByteArray), (⟨#[]⟩ : ByteArray), 2))))) else (none)) else (none))) else (none)) else (none))) else (none)) else (none)) else (none))) else (some (0, 0, 0, 0, (⟨#[]⟩ : ByteArray), (⟨#[]⟩ : ByteArray), t271))) = some (r1, r2, r3, r4, r5, r6, r7) := H
       have A14 := Ax.mk A140
       clear A140
       by_cases c15 : t271 = 0
       ·rw [if_pos c15] at H
        have c15b0 : (t271 == 0) = true := beq_iff_eq.mpr c15
        have c15b1 : (t271 != 0) = false := bne_eq_false_iff_eq.mpr c15
        clear c15
        by_cases c16 : (t270.size : Int) < 17
        ·rw [if_pos c16] at H
         have c16b0 : decide ((t270.size : Int) < 17) = true := decide_eq_true c16
         have c16b1 : decide (t270.size < 17) = true := decide_eq_true (by omega)
         clear c16
         simp only [Option.some.injEq, Prod.mk.injEq] at H
         obtain ⟨rfl, rfl, rfl, rfl, rfl, rfl, rfl⟩ := H
         go_enter Tryd.func28, Tryd.ntmps28
         go_wp2_with (first | ((with_reducible refine gate_dst (N := 2) rfl ?_); refine box_event ?hg (N := 2) ?hd (cs := #[.int .i64 0, .int .i64 0, .int .i64 0, .int .u64 0, .string (⟨#[]⟩ : ByteArray)]) (t := 26) ?hr ?_; (case hd => rfl); (case hg => rfl); (case hr => first | (go_simp; done) | (go_simp; rfl)); intro gb268 hg w17 hbox hb; have n0_ := Ax.mk (bP bA hb); have n1_ := Ax.mk (hbox); have n2_ := Ax.mk ((ge_new hg : w.heap.size ≤ gb268)); have n3_ := n2_; clear HB; have HB := n0_; have BK268 := n1_; have GW268 := n2_; have GE268 := n3_; clear n0_ n1_ n2_ n3_; clear hb hbox hg) | ((with_reducible refine gate_callee (f := 57) rfl ?_); refine goesL_ (some 17) rfl rfl Tryd.func57 (by kernel_rfl) rfl #[.string (a0.extract 0 2)] rfl (by (try simp only [List.map_toArray, List.map_cons, List.map_nil]); first | done | rfl | (simp only [List.length_drop, List.length_take]; rfl) | (rw [wrap_sum2 (by assumption)]; rfl)) ?_; (with_reducible refine (r2_Get.calls k (a0.extract 0 2) t269 _ A7.out).mono ?_); rintro e w18 ⟨rfl, hb⟩; refine ⟨_, rfl, ?_⟩; have n0_ := Ax.mk (bB (bT BK268.out) hb); have n1_ := Ax.mk (bP bA hb); clear BK268; clear HB; have BK268 := n0_; have HB := n1_; clear n0_ n1_; (try clear hb); (try clear hb2); (try clear hk); (try clear hi)) | ((with_reducible refine gate_callee (f := 58) rfl ?_); refine goesL_ (some 30) rfl rfl Tryd.func58 (by kernel_rfl) rfl #[.string (a0.extract 2 ((wrap64 (2 + (wrap64 (t269)))) : Int).toNat)] rfl (by (try simp only [List.map_toArray, List.map_cons, List.map_nil]); first | done | rfl | (simp only [List.length_drop, List.length_take]; rfl) | (rw [wrap_sum2 (by assumption)]; rfl)) ?_; (with_reducible refine (r3_Take.calls k (a0.extract 2 ((wrap64 (2 + (wrap64 (t269)))) : Int).toNat) t270 t271 _ A14.out).mono ?_); rintro e w19 ⟨rfl, hb⟩; refine ⟨_, rfl, ?_⟩; have n0_ := Ax.mk (bB (bT BK268.out) hb); have n1_ := Ax.mk (bP bA hb); clear BK268; clear HB; have BK268 := n0_; have HB := n1_; clear n0_ n1_; (try clear hb); (try clear hb2); (try clear hk); (try clear hi); have hcz20_0 : w19.cell? ⟨gb268, 0, none⟩ = some (.int .i64 0) := (bC BK268.out 0).trans rfl; have hcz20_1 : w19.cell? ⟨gb268, 1, none⟩ = some (.int .i64 0) := (bC BK268.out 1).trans rfl; have hcz20_2 : w19.cell? ⟨gb268, 2, none⟩ = some (.int .i64 0) := (bC BK268.out 2).trans rfl; have hcz20_3 : w19.cell? ⟨gb268, 3, none⟩ = some (.int .u64 0) := (bC BK268.out 3).trans rfl; have hcz20_4 : w19.cell? ⟨gb268, 4, none⟩ = some (.string (⟨#[]⟩ : ByteArray)) := (bC BK268.out 4).trans rfl; have hfz20_0 := bF BK268.out 0; have hfz20_1 := bF BK268.out 1; have hfz20_2 := bF BK268.out 2; have hfz20_3 := bF BK268.out 3; have hfz20_4 := bF BK268.out 4))
         refine bodyPost_ret (results_ctt rfl _ _ gb268 26 #[.int .i64 0, .int .i64 0, .int .i64 0, .int .u64 0, .string (⟨#[]⟩ : ByteArray)] (0, 0) _ rfl (by refine bT ?_; refine bU (cs := #[.int .i64 0, .int .i64 0, .int .i64 0, .int .u64 0, .string (⟨#[]⟩ : ByteArray)]) ?_ 4 _ rfl; refine bT ?_; refine bU (cs := #[.int .i64 0, .int .i64 0, .int .i64 0, .int .u64 0, .string (⟨#[]⟩ : ByteArray)]) ?_ 3 _ rfl; refine bT ?_; refine bU (cs := #[.int .i64 0, .int .i64 0, .int .i64 0, .int .u64 0, .string (⟨#[]⟩ : ByteArray)]) ?_ 2 _ rfl; refine bT ?_; refine bU (cs := #[.int .i64 0, .int .i64 0, .int .i64 0, .int .u64 0, .string (⟨#[]⟩ : ByteArray)]) ?_ 1 _ rfl; refine bT ?_; refine bU (cs := #[.int .i64 0, .int .i64 0, .int .i64 0, .int .u64 0, .string (⟨#[]⟩ : ByteArray)]) ?_ 0 _ rfl; exact bT BK268.out) Tryd.underlying26 rfl (by kernel_rfl)) rfl ?_
         exact ⟨by first | rfl | (simp [errW_none, errW_some] <;> rfl) | (simp [*, errW_none, errW_some] <;> rfl), bA⟩
        ·rw [if_neg c16] at H
         have c16b0 : decide ((t270.size : Int) < 17) = false := decide_eq_false c16
         have c16b1 : decide (t270.size < 17) = false := decide_eq_false (by omega)
         clear c16
         by_cases c21 : 0 < (t270.size : Int)
         ·rw [if_pos c21] at H
          have c21b0 : decide (0 < (t270.size : Int)) = true := decide_eq_true c21
          have c21b1 : decide (0 < t270.size) = true := decide_eq_true (by omega)
          clear c21
          by_cases c23 : 1 ≤ 5
          ·rw [if_pos c23] at H
           have c23b0 := eq_true c23
           have c23b1 : decide (1 ≤ 5) = true := decide_eq_true c23
           clear c23
           by_cases c24 : 5 ≤ (t270.size : Int)
           ·rw [if_pos c24] at H
            have c24b0 := eq_true c24
            have c24b1 : decide (5 ≤ (t270.size : Int)) = true := decide_eq_true c24
            clear c24
            replace H := Option.bind_eq_some_iff.mp H
            obtain ⟨t272, A250, H⟩ := H
            replace H : (if 5 ≤ 9 then (if 9 ≤ (t270.size : Int) then ((r2_Get.f k (t270.extract 5 9)).bind fun t273 => (if 9 ≤ 17 then (if 17 ≤ (t270.size : Int) then ((r2_Get.f k (t270.extract 9 17)).bind fun t274 => ((r12_Put.f k (wrap64 (bt t270 0)) (wrap64 (t272)) (wrap64 (t273)) t274 (t270.extract 17 t270.size)).bind fun bt276 => (if bt276.2 = 0 then (if 0 ≤ (wrap64 (2 + (wrap64 (t269)))) then (if bt276.1.toList = (a0.extract 0 ((wrap64 (2 + (wrap64 (t269)))) : Int).toNat).toList then (some (wrap64 (bt t270 0), wrap64 (t272), wrap64 (t273), t274, t270.extract 17 t270.size, a0.extract ((wrap64 (2 + (wrap64 (t269)))) : Int).toNat a0.size, 0)) else (some (0, 0, 0, 0, (⟨#[]⟩ : ByteArray), (⟨#[]⟩ : ByteArray), 2))) else (none)) else (some (0, 0, 0, 0, (⟨#[]⟩ : ByteArray), (⟨#[]⟩ : ByteArray), 2))))) else (none)) else (none))) else (none)) else (none)) = some (r1, r2, r3, r4, r5, r6, r7) := H
            have A25 := Ax.mk A250
            clear A250
            by_cases c26 : 5 ≤ 9
            ·rw [if_pos c26] at H
             have c26b0 := eq_true c26
             have c26b1 : decide (5 ≤ 9) = true := decide_eq_true c26
             clear c26
             by_cases c27 : 9 ≤ (t270.size : Int)
             ·rw [if_pos c27] at H
              have c27b0 := eq_true c27
              have c27b1 : decide (9 ≤ (t270.size : Int)) = true := decide_eq_true c27
              clear c27
              replace H := Option.bind_eq_some_iff.mp H
              obtain ⟨t273, A280, H⟩ := H
              replace H : (if 9 ≤ 17 then (if 17 ≤ (t270.size : Int) then ((r2_Get.f k (t270.extract 9 17)).bind fun t274 => ((r12_Put.f k (wrap64 (bt t270 0)) (wrap64 (t272)) (wrap64 (t273)) t274 (t270.extract 17 t270.size)).bind fun bt276 => (if bt276.2 = 0 then (if 0 ≤ (wrap64 (2 + (wrap64 (t269)))) then (if bt276.1.toList = (a0.extract 0 ((wrap64 (2 + (wrap64 (t269)))) : Int).toNat).toList then (some (wrap64 (bt t270 0), wrap64 (t272), wrap64 (t273), t274, t270.extract 17 t270.size, a0.extract ((wrap64 (2 + (wrap64 (t269)))) : Int).toNat a0.size, 0)) else (some (0, 0, 0, 0, (⟨#[]⟩ : ByteArray), (⟨#[]⟩ : ByteArray), 2))) else (none)) else (some (0, 0, 0, 0, (⟨#[]⟩ : ByteArray), (⟨#[]⟩ : ByteArray), 2))))) else (none)) else (none)) = some (r1, r2, r3, r4, r5, r6, r7) := H
              have A28 := Ax.mk A280
              clear A280
              by_cases c29 : 9 ≤ 17
              ·rw [if_pos c29] at H
               have c29b0 := eq_true c29
               have c29b1 : decide (9 ≤ 17) = true := decide_eq_true c29
               clear c29
               by_cases c30 : 17 ≤ (t270.size : Int)
               ·rw [if_pos c30] at H
                have c30b0 := eq_true c30
                have c30b1 : decide (17 ≤ (t270.size : Int)) = true := decide_eq_true c30
                clear c30
                replace H := Option.bind_eq_some_iff.mp H
                obtain ⟨t274, A310, H⟩ := H
                replace H : ((r12_Put.f k (wrap64 (bt t270 0)) (wrap64 (t272)) (wrap64 (t273)) t274 (t270.extract 17 t270.size)).bind fun bt276 => (if bt276.2 = 0 then (if 0 ≤ (wrap64 (2 + (wrap64 (t269)))) then (if bt276.1.toList = (a0.extract 0 ((wrap64 (2 + (wrap64 (t269)))) : Int).toNat).toList then (some (wrap64 (bt t270 0), wrap64 (t272), wrap64 (t273), t274, t270.extract 17 t270.size, a0.extract ((wrap64 (2 + (wrap64 (t269)))) : Int).toNat a0.size, 0)) else (some (0, 0, 0, 0, (⟨#[]⟩ : ByteArray), (⟨#[]⟩ : ByteArray), 2))) else (none)) else (some (0, 0, 0, 0, (⟨#[]⟩ : ByteArray), (⟨#[]⟩ : ByteArray), 2)))) = some (r1, r2, r3, r4, r5, r6, r7) := H
                have A31 := Ax.mk A310
                clear A310
                have c32b0 := eq_true (ofD : 17 ≤ (t270.size : Int))
                replace H := Option.bind_eq_some_iff.mp H
                obtain ⟨⟨t276, t277⟩, A330, H⟩ := H
                replace H : (if t277 = 0 then (if 0 ≤ (wrap64 (2 + (wrap64 (t269)))) then (if t276.toList = (a0.extract 0 ((wrap64 (2 + (wrap64 (t269)))) : Int).toNat).toList then (some (wrap64 (bt t270 0), wrap64 (t272), wrap64 (t273), t274, t270.extract 17 t270.size, a0.extract ((wrap64 (2 + (wrap64 (t269)))) : Int).toNat a0.size, 0)) else (some (0, 0, 0, 0, (⟨#[]⟩ : ByteArray), (⟨#[]⟩ : ByteArray), 2))) else (none)) else (some (0, 0, 0, 0, (⟨#[]⟩ : ByteArray), (⟨#[]⟩ : ByteArray), 2))) = some (r1, r2, r3, r4, r5, r6, r7) := H
                have A33 := Ax.mk A330
                clear A330
                by_cases c34 : t277 = 0
                ·rw [if_pos c34] at H
                 have c34b0 : (t277 == 0) = true := beq_iff_eq.mpr c34
                 have c34b1 : (t277 != 0) = false := bne_eq_false_iff_eq.mpr c34
                 clear c34
                 obtain ⟨ji35, hji35⟩ : ∃ j_ : Int, (wrap64 (2 + (wrap64 (t269)))) = j_ := ⟨_, rfl⟩
                 replace H : (if 0 ≤ (ji35) then (if t276.toList = (a0.extract 0 ((ji35) : Int).toNat).toList then (some (wrap64 (bt t270 0), wrap64 (t272), wrap64 (t273), t274, t270.extract 17 t270.size, a0.extract ((ji35) : Int).toNat a0.size, 0)) else (some (0, 0, 0, 0, (⟨#[]⟩ : ByteArray), (⟨#[]⟩ : ByteArray), 2))) else (none)) = some (r1, r2, r3, r4, r5, r6, r7) := by first | (rw [hji35] at H; exact H) | (simp only [hji35] at H ⊢; exact H)
                 (try rw [hji35] at c8b0)
                 (try rw [hji35] at c12b0)
                 (try rw [hji35] at c12b1)
                 (try rw [hji35] at c12)
                 (try rw [hji35] at c13b0)
                 (try rw [hji35] at c13b1)
                 (try rw [hji35] at c13)
                 (try rw [hji35] at A7)
                 (try rw [hji35] at A14)
                 (try rw [hji35] at A25)
                 (try rw [hji35] at A28)
                 (try rw [hji35] at A31)
                 (try rw [hji35] at A33)
                 have hji35w : (IntKind.i64.wrap (2 + (wrap64 (t269)))) = ji35 := (i64_w _).trans hji35
                 by_cases c36 : 0 ≤ (ji35)
                 ·rw [if_pos c36] at H
                  have c36b0 := eq_true c36
                  have c36b1 : decide (0 ≤ (ji35)) = true := decide_eq_true c36
                  clear c36
                  have c37b0 := eq_true (ofD : (ji35) ≤ (a0.size : Int))
                  by_cases c38 : t276.toList = (a0.extract 0 ((ji35) : Int).toNat).toList
                  ·rw [if_pos c38] at H
                   have c38b0 : (t276.toList == (a0.extract 0 ((ji35) : Int).toNat).toList) = true := beq_iff_eq.mpr c38
                   have c38b1 : (t276.toList != (a0.extract 0 ((ji35) : Int).toNat).toList) = false := bne_eq_false_iff_eq.mpr c38
                   clear c38
                   have c39b0 := eq_true (ofD : 0 ≤ (ji35))
                   have c40b0 := eq_true (ofD : (ji35) ≤ (a0.size : Int))
                   simp only [Option.some.injEq, Prod.mk.injEq] at H
                   obtain ⟨rfl, rfl, rfl, rfl, rfl, rfl, rfl⟩ := H
                   go_enter Tryd.func28, Tryd.ntmps28
                   try go_wp2_with (first | ((with_reducible refine gate_dst (N := 2) rfl ?_); refine box_event ?hg (N := 2) ?hd (cs := #[.int .i64 0, .int .i64 0, .int .i64 0, .int .u64 0, .string (⟨#[]⟩ : ByteArray)]) (t := 26) ?hr ?_; (case hd => rfl); (case hg => rfl); (case hr => first | (go_simp; done) | (go_simp; rfl)); intro gb268 hg w41 hbox hb; have n0_ := Ax.mk (bP bA hb); have n1_ := Ax.mk (hbox); have n2_ := Ax.mk ((ge_new hg : w.heap.size ≤ gb268)); have n3_ := n2_; clear HB; have HB := n0_; have BK268 := n1_; have GW268 := n2_; have GE268 := n3_; clear n0_ n1_ n2_ n3_; clear hb hbox hg) | ((with_reducible refine gate_callee (f := 57) rfl ?_); refine goesL_ (some 17) rfl rfl Tryd.func57 (by kernel_rfl) rfl #[.string (a0.extract 0 2)] rfl (by (try simp only [List.map_toArray, List.map_cons, List.map_nil]); first | done | rfl | (simp only [List.length_drop, List.length_take]; rfl) | (rw [wrap_sum2 (by assumption)]; rfl)) ?_; (with_reducible refine (r2_Get.calls k (a0.extract 0 2) t269 _ A7.out).mono ?_); rintro e w42 ⟨rfl, hb⟩; refine ⟨_, rfl, ?_⟩; have n0_ := Ax.mk (bB (bT BK268.out) hb); have n1_ := Ax.mk (bP bA hb); clear BK268; clear HB; have BK268 := n0_; have HB := n1_; clear n0_ n1_; (try clear hb); (try clear hb2); (try clear hk); (try clear hi)) | ((with_reducible refine gate_callee (f := 58) rfl ?_); refine goesL_ (some 30) rfl rfl Tryd.func58 (by kernel_rfl) rfl #[.string (a0.extract 2 ((ji35) : Int).toNat)] rfl (by (try simp only [List.map_toArray, List.map_cons, List.map_nil]); first | done | (simp only [hji35]; rfl) | rfl | (simp only [List.length_drop, List.length_take]; rfl) | (rw [wrap_sum2 (by assumption)]; rfl)) ?_; (with_reducible refine (r3_Take.calls k (a0.extract 2 ((ji35) : Int).toNat) t270 t271 _ A14.out).mono ?_); rintro e w43 ⟨rfl, hb⟩; refine ⟨_, rfl, ?_⟩; have n0_ := Ax.mk (bB (bT BK268.out) hb); have n1_ := Ax.mk (bP bA hb); clear BK268; clear HB; have BK268 := n0_; have HB := n1_; clear n0_ n1_; (try clear hb); (try clear hb2); (try clear hk); (try clear hi)))
                   have n0_ := Ax.mk (blk_drew BK268.out)
                   have n1_ := Ax.mk (below_drew1 HB.out)
                   clear BK268
                   clear HB
                   have BK268 := n0_
                   have HB := n1_
                   clear n0_ n1_
                   have p22 : 0 ≤ (0 : Int) := (by omega)
                   have q22 : 0 < t270.size := (by have : (0 : Int) < (t270.size : Int) := ofD; omega)
                   have hx22 : ∀ h : 0 < t270.size, ((t270[0]'h).toNat : Int) = bt t270 0 := bt_at t270 0
                   clear p22
                   have qi22 : (0 < (t270.size : Int)) = True := eq_true (ofD)
                   replace q22 := eq_true q22
                   refine start_ (n := 19) (S := fun w' => True) (ds := []) (TF 0 19) (by kernel_rfl) rfl rfl trivial (fun hHeld => ?_); refine with_tabW r12_Take.tab11 r12_Take.bits11 (fun HT_ HW_ => ?_)
                   generalize w43.drew = w44 at BK268 HB hHeld ⊢
                   refine pure_ (i := 0) (N := some 41) (v := ?_) (a' := ?_) (TF 1 18) rfl rfl (any_of HT_.out (by kernel_rfl)) (fun _ _ _ h => h) (Or.inl ⟨by rfl, ?_⟩) ?_ ?_
                   rotate_left; · intro w'; go_simp; with_reducible rfl
                   rotate_left; · simp only [Act.put, sI, sZ, sS, i64_w, i32_w]; rfl
                   refine pure_ (i := 3) (N := some 44) (v := ?_) (a' := ?_) (BT 19 9) rfl rfl (any_of HT_.out (by kernel_rfl)) (fun _ _ _ h => h) (Or.inl ⟨by rfl, ?_⟩) ?_ ?_
                   rotate_left; · intro w'; go_simp; with_reducible rfl
                   rotate_left; · simp only [Act.put, sI, sZ, sS, i64_w, i32_w]; rfl
                   refine pure_ (i := 4) (N := some 45) (v := ?_) (a' := ?_) (BT 19 25) rfl rfl (any_of HT_.out (by kernel_rfl)) (fun _ _ _ h => h) (Or.inl ⟨by rfl, ?_⟩) ?_ ?_
                   rotate_left; · intro w'; go_simp; with_reducible rfl
                   rotate_left; · simp only [Act.put, sI, sZ, sS, i64_w, i32_w]; rfl
                   refine pure_ (i := 7) (N := some 48) (v := ?_) (a' := ?_) (BT 19 153) rfl rfl (any_of HT_.out (by kernel_rfl)) (fun _ _ _ h => h) (Or.inl ⟨by rfl, ?_⟩) ?_ ?_
                   rotate_left; · intro w'; go_simp; with_reducible rfl
                   rotate_left; · simp only [Act.put, sI, sZ, sS, i64_w, i32_w]; rfl
                   refine pure_ (i := 8) (N := some 49) (v := ?_) (a' := ?_) (BT 19 409) rfl rfl (any_of HT_.out (by kernel_rfl)) (fun _ _ _ h => h) (Or.inl ⟨by rfl, ?_⟩) ?_ ?_
                   rotate_left; · intro w'; go_simp; with_reducible rfl
                   rotate_left; · simp only [Act.put, sI, sZ, sS, i64_w, i32_w]; rfl
                   refine pure_ (i := 11) (N := some 52) (v := ?_) (a' := ?_) (BT 19 2457) rfl rfl (any_of HT_.out (by kernel_rfl)) (fun _ _ _ h => h) (Or.inl ⟨by rfl, ?_⟩) ?_ ?_
                   rotate_left; · intro w'; go_simp; with_reducible rfl
                   rotate_left; · simp only [Act.put, sI, sZ, sS, i64_w, i32_w]; rfl
                   refine pure_ (i := 12) (N := some 53) (v := ?_) (a' := ?_) (BT 19 6553) rfl rfl (any_of HT_.out (by kernel_rfl)) (fun _ _ _ h => h) (Or.inl ⟨by rfl, ?_⟩) ?_ ?_
                   rotate_left; · intro w'; go_simp; with_reducible rfl
                   rotate_left; · simp only [Act.put, sI, sZ, sS, i64_w, i32_w]; rfl
                   refine pure_ (i := 14) (N := some 55) (v := ?_) (a' := ?_) (BT 19 22937) rfl rfl (any_of HT_.out (by kernel_rfl)) (fun _ _ _ h => h) (Or.inl ⟨by rfl, ?_⟩) ?_ ?_
                   rotate_left; · intro w'; go_simp; with_reducible rfl
                   rotate_left; · simp only [Act.put, sI, sZ, sS, i64_w, i32_w]; rfl
                   refine pure_ (i := 15) (N := some 56) (v := ?_) (a' := ?_) (BT 19 55705) rfl rfl (any_of HT_.out (by kernel_rfl)) (fun _ _ _ h => h) (Or.inl ⟨by rfl, ?_⟩) ?_ ?_
                   rotate_left; · intro w'; go_simp; with_reducible rfl
                   rotate_left; · simp only [Act.put, sI, sZ, sS, i64_w, i32_w]; rfl
                   refine take_ (i := 1) (N := some 42) (v := ?_) (a' := ?_) (BT 19 55707) rfl rfl (take_ofW HT_.out HW_.out (by kernel_rfl)) (fun _ _ _ h => h) (Or.inl ⟨by rfl, ?_⟩) hHeld ?_ ?_
                   rotate_left
                   ·intro w' _
                    go_simp
                    with_reducible rfl
                   rotate_left
                   ·simp only [Act.put, sI, sZ, sS, i64_w, i32_w]
                    rfl
                   refine pure_ (i := 2) (N := some 43) (v := ?_) (a' := ?_) (BT 19 55711) rfl rfl (any_of HT_.out (by kernel_rfl)) (fun _ _ _ h => h) (Or.inl ⟨by rfl, ?_⟩) ?_ ?_
                   rotate_left; · intro w'; go_simp; with_reducible rfl
                   rotate_left; · simp only [Act.put, sI, sZ, sS, i64_w, i32_w]; rfl
                   refine join_ (σ := Nat) 1 (TF 18 1) (fun s_ => [(46, .int .u64 t272), (50, .int .u64 t273), (54, .int .u64 t274), (8, .pointer (some ⟨s_, 0, none⟩)), (47, .int .i64 (wrap64 (t272))), (51, .int .i64 (wrap64 (t273))), (57, .agg #[.int .i64 (wrap64 (bt t270 0)), .int .i64 (wrap64 (t272)), .int .i64 (wrap64 (t273)), .int .u64 t274, .string (t270.extract 17 t270.size)])]) (fun s_ w' => (w'.heap[gb268]? = some (.cells #[.int .i64 0, .int .i64 0, .int .i64 0, .int .u64 0, .string (⟨#[]⟩ : ByteArray)] 26 (0, 0))) ∧ (w'.heap[s_]? = some (.cells #[.int .i64 0, .int .i64 0, .int .i64 0, .int .u64 0, .string (⟨#[]⟩ : ByteArray)] 26 (0, 0))) ∧ (w.heap.size ≤ s_) ∧ (w.heap.size ≤ s_) ∧ (gb268 ≠ s_) ∧ (s_ ≠ gb268) ∧ (Below w.heap.size w w')) ?_ ?_
                   rotate_left
                   ·intro hCont
                    refine two_ (i := 5) (j := 17) (Ni := some 46) (Nj := some 8) (BT 19 55743) (BT 19 186783) rfl rfl rfl rfl (two_of HT_.out (by kernel_rfl)) (by decide) (by decide) (fun K hK => ?_) (fun K hK => ?_)
                    ·skip
                     refine goes_ Tryd.func57 (by kernel_rfl) rfl #[.string (t270.extract 1 5)] (by rfl) rfl rfl (by (try simp only [List.map_toArray, List.map_cons, List.map_nil]); first | done | rfl | (simp only [List.length_drop, List.length_take]; rfl) | (rw [wrap_sum2 (by assumption)]; rfl)) ?_
                     with_reducible refine (r2_Get.calls k (t270.extract 1 5) t272 _ A25.out).mono ?_
                     rintro e w45 ⟨rfl, hb⟩
                     refine ⟨_, rfl, ?_⟩
                     have n0_ := Ax.mk (bB (bT BK268.out) hb)
                     have n1_ := Ax.mk (bP bA hb)
                     clear BK268
                     clear HB
                     have BK268 := n0_
                     have HB := n1_
                     clear n0_ n1_
                     (try clear hb)
                     (try clear hb2)
                     (try clear hk)
                     (try clear hi)
                     refine hK.out _ _ trivial (fun hHeld => ?_)
                     clear hK K
                     refine norm_ (a' := ?_) ?_ ?_
                     rotate_left
                     ·show Act.put _ (some 46) _ = _
                      simp only [Act.put, sI, sZ, sS, i64_w, i32_w]
                      rfl
                     refine pure_ (i := 6) (N := some 47) (v := ?_) (a' := ?_) (BT 19 55807) rfl rfl (any_of HT_.out (by kernel_rfl)) (fun _ _ _ h => h) (Or.inl ⟨by rfl, ?_⟩) ?_ ?_
                     rotate_left; · intro w'; go_simp; with_reducible rfl
                     rotate_left; · simp only [Act.put, sI, sZ, sS, i64_w, i32_w]; rfl
                     refine two_ (i := 9) (j := 17) (Ni := some 50) (Nj := some 8) (BT 19 56319) (BT 19 186879) rfl rfl rfl rfl (two_of HT_.out (by kernel_rfl)) (by decide) (by decide) (fun K hK => ?_) (fun K hK => ?_)
                     ·skip
                      refine goes_ Tryd.func57 (by kernel_rfl) rfl #[.string (t270.extract 5 9)] (by rfl) rfl rfl (by (try simp only [List.map_toArray, List.map_cons, List.map_nil]); first | done | rfl | (simp only [List.length_drop, List.length_take]; rfl) | (rw [wrap_sum2 (by assumption)]; rfl)) ?_
                      with_reducible refine (r2_Get.calls k (t270.extract 5 9) t273 _ A28.out).mono ?_
                      rintro e w46 ⟨rfl, hb⟩
                      refine ⟨_, rfl, ?_⟩
                      have n0_ := Ax.mk (bB (bT BK268.out) hb)
                      have n1_ := Ax.mk (bP bA hb)
                      clear BK268
                      clear HB
                      have BK268 := n0_
                      have HB := n1_
                      clear n0_ n1_
                      (try clear hb)
                      (try clear hb2)
                      (try clear hk)
                      (try clear hi)
                      refine hK.out _ _ trivial (fun hHeld => ?_)
                      clear hK K
                      refine norm_ (a' := ?_) ?_ ?_
                      rotate_left
                      ·show Act.put _ (some 50) _ = _
                       simp only [Act.put, sI, sZ, sS, i64_w, i32_w]
                       rfl
                      refine pure_ (i := 10) (N := some 51) (v := ?_) (a' := ?_) (BT 19 57343) rfl rfl (any_of HT_.out (by kernel_rfl)) (fun _ _ _ h => h) (Or.inl ⟨by rfl, ?_⟩) ?_ ?_
                      rotate_left; · intro w'; go_simp; with_reducible rfl
                      rotate_left; · simp only [Act.put, sI, sZ, sS, i64_w, i32_w]; rfl
                      refine two_ (i := 13) (j := 17) (Ni := some 54) (Nj := some 8) (TF 16 3) (BT 19 188415) rfl rfl rfl rfl (two_of HT_.out (by kernel_rfl)) (by decide) (by decide) (fun K hK => ?_) (fun K hK => ?_)
                      ·skip
                       refine goes_ Tryd.func57 (by kernel_rfl) rfl #[.string (t270.extract 9 17)] (by rfl) rfl rfl (by (try simp only [List.map_toArray, List.map_cons, List.map_nil]); first | done | rfl | (simp only [List.length_drop, List.length_take]; rfl) | (rw [wrap_sum2 (by assumption)]; rfl)) ?_
                       with_reducible refine (r2_Get.calls k (t270.extract 9 17) t274 _ A31.out).mono ?_
                       rintro e w47 ⟨rfl, hb⟩
                       refine ⟨_, rfl, ?_⟩
                       have n0_ := Ax.mk (bB (bT BK268.out) hb)
                       have n1_ := Ax.mk (bP bA hb)
                       clear BK268
                       clear HB
                       have BK268 := n0_
                       have HB := n1_
                       clear n0_ n1_
                       (try clear hb)
                       (try clear hb2)
                       (try clear hk)
                       (try clear hi)
                       refine hK.out _ _ trivial (fun hHeld => ?_)
                       clear hK K
                       refine norm_ (a' := ?_) ?_ ?_
                       rotate_left
                       ·show Act.put _ (some 54) _ = _
                        simp only [Act.put, sI, sZ, sS, i64_w, i32_w]
                        rfl
                       refine pure_ (i := 16) (N := some 57) (v := ?_) (a' := ?_) (TF 17 2) rfl rfl (any_of HT_.out (by kernel_rfl)) (fun _ _ _ h => h) (Or.inl ⟨by rfl, ?_⟩) ?_ ?_
                       rotate_left; · intro w'; go_simp; with_reducible rfl
                       rotate_left; · simp only [Act.put, sI, sZ, sS, i64_w, i32_w]; rfl
                       refine one_ (i := 17) (N := some 8) (TF 18 1) rfl rfl (one_of HT_.out (by kernel_rfl)) (by decide) (fun K hK => ?_)
                       refine box_step ?hg (N := 8) ?hd (cs := #[.int .i64 0, .int .i64 0, .int .i64 0, .int .u64 0, .string (⟨#[]⟩ : ByteArray)]) (t := 26) ?hr ?_; (case hd => rfl); (case hg => rfl); (case hr => first | (go_simp; done) | (go_simp; rfl))
                       intro gb275 hg w48 hbox hb
                       have n0_ := Ax.mk (bB (bT BK268.out) hb)
                       have n1_ := Ax.mk (bP bA hb)
                       have n2_ := Ax.mk (hbox)
                       have n3_ := Ax.mk ((ge_new hg : w.heap.size ≤ gb275))
                       have n4_ := Ax.mk ((ge_new hg : w.heap.size ≤ gb275))
                       have n5_ := Ax.mk ((ne_lt hg BK268.out : gb268 ≠ gb275))
                       have n6_ := Ax.mk ((ne_gt hg BK268.out : gb275 ≠ gb268))
                       clear BK268
                       clear HB
                       have BK268 := n0_
                       have HB := n1_
                       have BK275 := n2_
                       have GW275 := n3_
                       have GE275 := n4_
                       have NB268_275 := n5_
                       have NB275_268 := n6_
                       clear n0_ n1_ n2_ n3_ n4_ n5_ n6_
                       clear hb hbox hg
                       refine hK.out _ _ trivial (fun hHeld => ?_)
                       clear hK K
                       refine norm_ (a' := ?_) ?_ ?_
                       rotate_left
                       ·show Act.put _ (some 8) _ = _
                        simp only [Act.put, sI, sZ, sS, i64_w, i32_w]
                        rfl
                       exact norm_ (by simp only [putAll, Act.put, sI, sZ, sS]) (hCont (gb275) _ ⟨(bT BK268.out), (bT BK275.out), GW275.out, GE275.out, NB268_275.out, NB275_268.out, bA⟩)
                      ·skip
                       refine box_step ?hg (N := 8) ?hd (cs := #[.int .i64 0, .int .i64 0, .int .i64 0, .int .u64 0, .string (⟨#[]⟩ : ByteArray)]) (t := 26) ?hr ?_; (case hd => rfl); (case hg => rfl); (case hr => first | (go_simp; done) | (go_simp; rfl))
                       intro gb275 hg w47 hbox hb
                       have n0_ := Ax.mk (bB (bT BK268.out) hb)
                       have n1_ := Ax.mk (bP bA hb)
                       have n2_ := Ax.mk (hbox)
                       have n3_ := Ax.mk ((ge_new hg : w.heap.size ≤ gb275))
                       have n4_ := Ax.mk ((ge_new hg : w.heap.size ≤ gb275))
                       have n5_ := Ax.mk ((ne_lt hg BK268.out : gb268 ≠ gb275))
                       have n6_ := Ax.mk ((ne_gt hg BK268.out : gb275 ≠ gb268))
                       clear BK268
                       clear HB
                       have BK268 := n0_
                       have HB := n1_
                       have BK275 := n2_
                       have GW275 := n3_
                       have GE275 := n4_
                       have NB268_275 := n5_
                       have NB275_268 := n6_
                       clear n0_ n1_ n2_ n3_ n4_ n5_ n6_
                       clear hb hbox hg
                       refine hK.out _ _ trivial (fun hHeld => ?_)
                       clear hK K
                       refine norm_ (a' := ?_) ?_ ?_
                       rotate_left
                       ·show Act.put _ (some 8) _ = _
                        simp only [Act.put, sI, sZ, sS, i64_w, i32_w]
                        rfl
                       refine one_ (i := 13) (N := some 54) (BT 19 196607) rfl rfl (one_of HT_.out (by kernel_rfl)) (by decide) (fun K hK => ?_)
                       refine goes_ Tryd.func57 (by kernel_rfl) rfl #[.string (t270.extract 9 17)] (by rfl) rfl rfl (by (try simp only [List.map_toArray, List.map_cons, List.map_nil]); first | done | rfl | (simp only [List.length_drop, List.length_take]; rfl) | (rw [wrap_sum2 (by assumption)]; rfl)) ?_
                       with_reducible refine (r2_Get.calls k (t270.extract 9 17) t274 _ A31.out).mono ?_
                       rintro e w48 ⟨rfl, hb⟩
                       refine ⟨_, rfl, ?_⟩
                       have n0_ := Ax.mk (bB (bT BK268.out) hb)
                       have n1_ := Ax.mk (bB (bT BK275.out) hb)
                       have n2_ := Ax.mk (bP bA hb)
                       clear BK268
                       clear BK275
                       clear HB
                       have BK268 := n0_
                       have BK275 := n1_
                       have HB := n2_
                       clear n0_ n1_ n2_
                       (try clear hb)
                       (try clear hb2)
                       (try clear hk)
                       (try clear hi)
                       refine hK.out _ _ trivial (fun hHeld => ?_)
                       clear hK K
                       refine norm_ (a' := ?_) ?_ ?_
                       rotate_left
                       ·show Act.put _ (some 54) _ = _
                        simp only [Act.put, sI, sZ, sS, i64_w, i32_w]
                        rfl
                       refine pure_ (i := 16) (N := some 57) (v := ?_) (a' := ?_) (TF 18 1) rfl rfl (any_of HT_.out (by kernel_rfl)) (fun _ _ _ h => h) (Or.inl ⟨by rfl, ?_⟩) ?_ ?_
                       rotate_left; · intro w'; go_simp; with_reducible rfl
                       rotate_left; · simp only [Act.put, sI, sZ, sS, i64_w, i32_w]; rfl
                       exact norm_ (by simp only [putAll, Act.put, sI, sZ, sS]) (hCont (gb275) _ ⟨(bT BK268.out), (bT BK275.out), GW275.out, GE275.out, NB268_275.out, NB275_268.out, bA⟩)
                     ·skip
                      refine box_step ?hg (N := 8) ?hd (cs := #[.int .i64 0, .int .i64 0, .int .i64 0, .int .u64 0, .string (⟨#[]⟩ : ByteArray)]) (t := 26) ?hr ?_; (case hd => rfl); (case hg => rfl); (case hr => first | (go_simp; done) | (go_simp; rfl))
                      intro gb275 hg w46 hbox hb
                      have n0_ := Ax.mk (bB (bT BK268.out) hb)
                      have n1_ := Ax.mk (bP bA hb)
                      have n2_ := Ax.mk (hbox)
                      have n3_ := Ax.mk ((ge_new hg : w.heap.size ≤ gb275))
                      have n4_ := Ax.mk ((ge_new hg : w.heap.size ≤ gb275))
                      have n5_ := Ax.mk ((ne_lt hg BK268.out : gb268 ≠ gb275))
                      have n6_ := Ax.mk ((ne_gt hg BK268.out : gb275 ≠ gb268))
                      clear BK268
                      clear HB
                      have BK268 := n0_
                      have HB := n1_
                      have BK275 := n2_
                      have GW275 := n3_
                      have GE275 := n4_
                      have NB268_275 := n5_
                      have NB275_268 := n6_
                      clear n0_ n1_ n2_ n3_ n4_ n5_ n6_
                      clear hb hbox hg
                      refine hK.out _ _ trivial (fun hHeld => ?_)
                      clear hK K
                      refine norm_ (a' := ?_) ?_ ?_
                      rotate_left
                      ·show Act.put _ (some 8) _ = _
                       simp only [Act.put, sI, sZ, sS, i64_w, i32_w]
                       rfl
                      refine one_ (i := 9) (N := some 50) (BT 19 187391) rfl rfl (one_of HT_.out (by kernel_rfl)) (by decide) (fun K hK => ?_)
                      refine goes_ Tryd.func57 (by kernel_rfl) rfl #[.string (t270.extract 5 9)] (by rfl) rfl rfl (by (try simp only [List.map_toArray, List.map_cons, List.map_nil]); first | done | rfl | (simp only [List.length_drop, List.length_take]; rfl) | (rw [wrap_sum2 (by assumption)]; rfl)) ?_
                      with_reducible refine (r2_Get.calls k (t270.extract 5 9) t273 _ A28.out).mono ?_
                      rintro e w47 ⟨rfl, hb⟩
                      refine ⟨_, rfl, ?_⟩
                      have n0_ := Ax.mk (bB (bT BK268.out) hb)
                      have n1_ := Ax.mk (bB (bT BK275.out) hb)
                      have n2_ := Ax.mk (bP bA hb)
                      clear BK268
                      clear BK275
                      clear HB
                      have BK268 := n0_
                      have BK275 := n1_
                      have HB := n2_
                      clear n0_ n1_ n2_
                      (try clear hb)
                      (try clear hb2)
                      (try clear hk)
                      (try clear hi)
                      refine hK.out _ _ trivial (fun hHeld => ?_)
                      clear hK K
                      refine norm_ (a' := ?_) ?_ ?_
                      rotate_left
                      ·show Act.put _ (some 50) _ = _
                       simp only [Act.put, sI, sZ, sS, i64_w, i32_w]
                       rfl
                      refine pure_ (i := 10) (N := some 51) (v := ?_) (a' := ?_) (BT 19 188415) rfl rfl (any_of HT_.out (by kernel_rfl)) (fun _ _ _ h => h) (Or.inl ⟨by rfl, ?_⟩) ?_ ?_
                      rotate_left; · intro w'; go_simp; with_reducible rfl
                      rotate_left; · simp only [Act.put, sI, sZ, sS, i64_w, i32_w]; rfl
                      refine one_ (i := 13) (N := some 54) (BT 19 196607) rfl rfl (one_of HT_.out (by kernel_rfl)) (by decide) (fun K hK => ?_)
                      refine goes_ Tryd.func57 (by kernel_rfl) rfl #[.string (t270.extract 9 17)] (by rfl) rfl rfl (by (try simp only [List.map_toArray, List.map_cons, List.map_nil]); first | done | rfl | (simp only [List.length_drop, List.length_take]; rfl) | (rw [wrap_sum2 (by assumption)]; rfl)) ?_
                      with_reducible refine (r2_Get.calls k (t270.extract 9 17) t274 _ A31.out).mono ?_
                      rintro e w48 ⟨rfl, hb⟩
                      refine ⟨_, rfl, ?_⟩
                      have n0_ := Ax.mk (bB (bT BK268.out) hb)
                      have n1_ := Ax.mk (bB (bT BK275.out) hb)
                      have n2_ := Ax.mk (bP bA hb)
                      clear BK268
                      clear BK275
                      clear HB
                      have BK268 := n0_
                      have BK275 := n1_
                      have HB := n2_
                      clear n0_ n1_ n2_
                      (try clear hb)
                      (try clear hb2)
                      (try clear hk)
                      (try clear hi)
                      refine hK.out _ _ trivial (fun hHeld => ?_)
                      clear hK K
                      refine norm_ (a' := ?_) ?_ ?_
                      rotate_left
                      ·show Act.put _ (some 54) _ = _
                       simp only [Act.put, sI, sZ, sS, i64_w, i32_w]
                       rfl
                      refine pure_ (i := 16) (N := some 57) (v := ?_) (a' := ?_) (TF 18 1) rfl rfl (any_of HT_.out (by kernel_rfl)) (fun _ _ _ h => h) (Or.inl ⟨by rfl, ?_⟩) ?_ ?_
                      rotate_left; · intro w'; go_simp; with_reducible rfl
                      rotate_left; · simp only [Act.put, sI, sZ, sS, i64_w, i32_w]; rfl
                      exact norm_ (by simp only [putAll, Act.put, sI, sZ, sS]) (hCont (gb275) _ ⟨(bT BK268.out), (bT BK275.out), GW275.out, GE275.out, NB268_275.out, NB275_268.out, bA⟩)
                    ·skip
                     refine box_step ?hg (N := 8) ?hd (cs := #[.int .i64 0, .int .i64 0, .int .i64 0, .int .u64 0, .string (⟨#[]⟩ : ByteArray)]) (t := 26) ?hr ?_; (case hd => rfl); (case hg => rfl); (case hr => first | (go_simp; done) | (go_simp; rfl))
                     intro gb275 hg w45 hbox hb
                     have n0_ := Ax.mk (bB (bT BK268.out) hb)
                     have n1_ := Ax.mk (bP bA hb)
                     have n2_ := Ax.mk (hbox)
                     have n3_ := Ax.mk ((ge_new hg : w.heap.size ≤ gb275))
                     have n4_ := Ax.mk ((ge_new hg : w.heap.size ≤ gb275))
                     have n5_ := Ax.mk ((ne_lt hg BK268.out : gb268 ≠ gb275))
                     have n6_ := Ax.mk ((ne_gt hg BK268.out : gb275 ≠ gb268))
                     clear BK268
                     clear HB
                     have BK268 := n0_
                     have HB := n1_
                     have BK275 := n2_
                     have GW275 := n3_
                     have GE275 := n4_
                     have NB268_275 := n5_
                     have NB275_268 := n6_
                     clear n0_ n1_ n2_ n3_ n4_ n5_ n6_
                     clear hb hbox hg
                     refine hK.out _ _ trivial (fun hHeld => ?_)
                     clear hK K
                     refine norm_ (a' := ?_) ?_ ?_
                     rotate_left
                     ·show Act.put _ (some 8) _ = _
                      simp only [Act.put, sI, sZ, sS, i64_w, i32_w]
                      rfl
                     refine one_ (i := 5) (N := some 46) (BT 19 186815) rfl rfl (one_of HT_.out (by kernel_rfl)) (by decide) (fun K hK => ?_)
                     refine goes_ Tryd.func57 (by kernel_rfl) rfl #[.string (t270.extract 1 5)] (by rfl) rfl rfl (by (try simp only [List.map_toArray, List.map_cons, List.map_nil]); first | done | rfl | (simp only [List.length_drop, List.length_take]; rfl) | (rw [wrap_sum2 (by assumption)]; rfl)) ?_
                     with_reducible refine (r2_Get.calls k (t270.extract 1 5) t272 _ A25.out).mono ?_
                     rintro e w46 ⟨rfl, hb⟩
                     refine ⟨_, rfl, ?_⟩
                     have n0_ := Ax.mk (bB (bT BK268.out) hb)
                     have n1_ := Ax.mk (bB (bT BK275.out) hb)
                     have n2_ := Ax.mk (bP bA hb)
                     clear BK268
                     clear BK275
                     clear HB
                     have BK268 := n0_
                     have BK275 := n1_
                     have HB := n2_
                     clear n0_ n1_ n2_
                     (try clear hb)
                     (try clear hb2)
                     (try clear hk)
                     (try clear hi)
                     refine hK.out _ _ trivial (fun hHeld => ?_)
                     clear hK K
                     refine norm_ (a' := ?_) ?_ ?_
                     rotate_left
                     ·show Act.put _ (some 46) _ = _
                      simp only [Act.put, sI, sZ, sS, i64_w, i32_w]
                      rfl
                     refine pure_ (i := 6) (N := some 47) (v := ?_) (a' := ?_) (BT 19 186879) rfl rfl (any_of HT_.out (by kernel_rfl)) (fun _ _ _ h => h) (Or.inl ⟨by rfl, ?_⟩) ?_ ?_
                     rotate_left; · intro w'; go_simp; with_reducible rfl
                     rotate_left; · simp only [Act.put, sI, sZ, sS, i64_w, i32_w]; rfl
                     refine one_ (i := 9) (N := some 50) (BT 19 187391) rfl rfl (one_of HT_.out (by kernel_rfl)) (by decide) (fun K hK => ?_)
                     refine goes_ Tryd.func57 (by kernel_rfl) rfl #[.string (t270.extract 5 9)] (by rfl) rfl rfl (by (try simp only [List.map_toArray, List.map_cons, List.map_nil]); first | done | rfl | (simp only [List.length_drop, List.length_take]; rfl) | (rw [wrap_sum2 (by assumption)]; rfl)) ?_
                     with_reducible refine (r2_Get.calls k (t270.extract 5 9) t273 _ A28.out).mono ?_
                     rintro e w47 ⟨rfl, hb⟩
                     refine ⟨_, rfl, ?_⟩
                     have n0_ := Ax.mk (bB (bT BK268.out) hb)
                     have n1_ := Ax.mk (bB (bT BK275.out) hb)
                     have n2_ := Ax.mk (bP bA hb)
                     clear BK268
                     clear BK275
                     clear HB
                     have BK268 := n0_
                     have BK275 := n1_
                     have HB := n2_
                     clear n0_ n1_ n2_
                     (try clear hb)
                     (try clear hb2)
                     (try clear hk)
                     (try clear hi)
                     refine hK.out _ _ trivial (fun hHeld => ?_)
                     clear hK K
                     refine norm_ (a' := ?_) ?_ ?_
                     rotate_left
                     ·show Act.put _ (some 50) _ = _
                      simp only [Act.put, sI, sZ, sS, i64_w, i32_w]
                      rfl
                     refine pure_ (i := 10) (N := some 51) (v := ?_) (a' := ?_) (BT 19 188415) rfl rfl (any_of HT_.out (by kernel_rfl)) (fun _ _ _ h => h) (Or.inl ⟨by rfl, ?_⟩) ?_ ?_
                     rotate_left; · intro w'; go_simp; with_reducible rfl
                     rotate_left; · simp only [Act.put, sI, sZ, sS, i64_w, i32_w]; rfl
                     refine one_ (i := 13) (N := some 54) (BT 19 196607) rfl rfl (one_of HT_.out (by kernel_rfl)) (by decide) (fun K hK => ?_)
                     refine goes_ Tryd.func57 (by kernel_rfl) rfl #[.string (t270.extract 9 17)] (by rfl) rfl rfl (by (try simp only [List.map_toArray, List.map_cons, List.map_nil]); first | done | rfl | (simp only [List.length_drop, List.length_take]; rfl) | (rw [wrap_sum2 (by assumption)]; rfl)) ?_
                     with_reducible refine (r2_Get.calls k (t270.extract 9 17) t274 _ A31.out).mono ?_
                     rintro e w48 ⟨rfl, hb⟩
                     refine ⟨_, rfl, ?_⟩
                     have n0_ := Ax.mk (bB (bT BK268.out) hb)
                     have n1_ := Ax.mk (bB (bT BK275.out) hb)
                     have n2_ := Ax.mk (bP bA hb)
                     clear BK268
                     clear BK275
                     clear HB
                     have BK268 := n0_
                     have BK275 := n1_
                     have HB := n2_
                     clear n0_ n1_ n2_
                     (try clear hb)
                     (try clear hb2)
                     (try clear hk)
                     (try clear hi)
                     refine hK.out _ _ trivial (fun hHeld => ?_)
                     clear hK K
                     refine norm_ (a' := ?_) ?_ ?_
                     rotate_left
                     ·show Act.put _ (some 54) _ = _
                      simp only [Act.put, sI, sZ, sS, i64_w, i32_w]
                      rfl
                     refine pure_ (i := 16) (N := some 57) (v := ?_) (a' := ?_) (TF 18 1) rfl rfl (any_of HT_.out (by kernel_rfl)) (fun _ _ _ h => h) (Or.inl ⟨by rfl, ?_⟩) ?_ ?_
                     rotate_left; · intro w'; go_simp; with_reducible rfl
                     rotate_left; · simp only [Act.put, sI, sZ, sS, i64_w, i32_w]; rfl
                     exact norm_ (by simp only [putAll, Act.put, sI, sZ, sS]) (hCont (gb275) _ ⟨(bT BK268.out), (bT BK275.out), GW275.out, GE275.out, NB268_275.out, NB275_268.out, bA⟩)
                   rintro gb275 w49 ⟨h0_, h1_, h2_, h3_, h4_, h5_, h6_⟩
                   have n0_ : Ax (w49.heap[gb268]? = some (.cells #[.int .i64 0, .int .i64 0, .int .i64 0, .int .u64 0, .string (⟨#[]⟩ : ByteArray)] 26 (0, 0))) := ⟨h0_⟩
                   have n1_ : Ax (w49.heap[gb275]? = some (.cells #[.int .i64 0, .int .i64 0, .int .i64 0, .int .u64 0, .string (⟨#[]⟩ : ByteArray)] 26 (0, 0))) := ⟨h1_⟩
                   have n2_ : Ax (w.heap.size ≤ gb275) := ⟨h2_⟩
                   have n3_ : Ax (w.heap.size ≤ gb275) := ⟨h3_⟩
                   have n4_ : Ax (gb268 ≠ gb275) := ⟨h4_⟩
                   have n5_ : Ax (gb275 ≠ gb268) := ⟨h5_⟩
                   have n6_ : Ax (Below w.heap.size w w49) := ⟨h6_⟩
                   clear BK268
                   clear HB
                   clear h0_ h1_ h2_ h3_ h4_ h5_ h6_
                   have BK268 := n0_
                   have BK275 := n1_
                   have GW275 := n2_
                   have GE275 := n3_
                   have NB268_275 := n4_
                   have NB275_268 := n5_
                   have HB := n6_
                   clear n0_ n1_ n2_ n3_ n4_ n5_ n6_
                   have hHeld := trivial
                   refine norm_ (a' := ?_) ?_ ?_
                   rotate_left
                   ·simp only [putAll, Act.put, sI, sZ, sS]
                    rfl
                   refine one_ (i := 18) (N := none) (TF 19 0) rfl rfl (one_of HT_.out (by kernel_rfl)) (by decide) (fun K hK => ?_)
                   have hs50 : w49.cell? ⟨gb275, 0, none⟩ = some (.int .i64 0) := (bC BK275.out 0).trans rfl
                   have hfs50 := bF BK275.out 0
                   have hns50_0 := NB268_275.out
                   have hms50_0 := NB275_268.out
                   have hs51 : w49.cell? ⟨gb275, 1, none⟩ = some (.int .i64 0) := (bC BK275.out 1).trans rfl
                   have hfs51 := bF BK275.out 1
                   have hns51_0 := NB268_275.out
                   have hms51_0 := NB275_268.out
                   have hs52 : w49.cell? ⟨gb275, 2, none⟩ = some (.int .i64 0) := (bC BK275.out 2).trans rfl
                   have hfs52 := bF BK275.out 2
                   have hns52_0 := NB268_275.out
                   have hms52_0 := NB275_268.out
                   have hs53 : w49.cell? ⟨gb275, 3, none⟩ = some (.int .u64 0) := (bC BK275.out 3).trans rfl
                   have hfs53 := bF BK275.out 3
                   have hns53_0 := NB268_275.out
                   have hms53_0 := NB275_268.out
                   have hs54 : w49.cell? ⟨gb275, 4, none⟩ = some (.string (⟨#[]⟩ : ByteArray)) := (bC BK275.out 4).trans rfl
                   have hfs54 := bF BK275.out 4
                   have hns54_0 := NB268_275.out
                   have hms54_0 := NB275_268.out
                   refine skip_ (w1 := ?_) (by rfl) rfl ?_ ?_
                   rotate_left
                   ·go_simp
                    rfl
                   refine hK.out _ _ trivial (fun hHeld => ?_)
                   clear hK K
                   refine done_ (done_of HT_.out (by kernel_rfl)) ?_
                   have hnb55 := NB275_268.out
                   have hnc55 := NB268_275.out
                   have hcz56_0 : w49.cell? ⟨gb275, 0, none⟩ = some (.int .i64 0) := (bC BK275.out 0).trans rfl
                   have hcz56_1 : w49.cell? ⟨gb275, 1, none⟩ = some (.int .i64 0) := (bC BK275.out 1).trans rfl
                   have hcz56_2 : w49.cell? ⟨gb275, 2, none⟩ = some (.int .i64 0) := (bC BK275.out 2).trans rfl
                   have hcz56_3 : w49.cell? ⟨gb275, 3, none⟩ = some (.int .u64 0) := (bC BK275.out 3).trans rfl
                   have hcz56_4 : w49.cell? ⟨gb275, 4, none⟩ = some (.string (⟨#[]⟩ : ByteArray)) := (bC BK275.out 4).trans rfl
                   have hfz56_0 := bF BK275.out 0
                   have hfz56_1 := bF BK275.out 1
                   have hfz56_2 := bF BK275.out 2
                   have hfz56_3 := bF BK275.out 3
                   have hfz56_4 := bF BK275.out 4
                   try go_wp2_with (first | ((with_reducible refine gate_callee (f := 20) rfl ?_); refine goesL_ (some 60) rfl rfl Tryd.func20 (by kernel_rfl) rfl #[.agg #[.int .i64 (wrap64 (bt t270 0)), .int .i64 (wrap64 (t272)), .int .i64 (wrap64 (t273)), .int .u64 t274, .string (t270.extract 17 t270.size)]] rfl (by (try simp only [List.map_toArray, List.map_cons, List.map_nil]); first | done | rfl | (simp only [List.length_drop, List.length_take]; rfl) | (rw [wrap_sum2 (by assumption)]; rfl)) ?_; (with_reducible refine (r12_Put.calls k (wrap64 (bt t270 0)) (wrap64 (t272)) (wrap64 (t273)) t274 (t270.extract 17 t270.size) t276 t277 _ A33.out).mono ?_); rintro e w57 ⟨rfl, hb⟩; refine ⟨_, rfl, ?_⟩; have n0_ := Ax.mk (bB (g := gb268) (o := .cells #[.int .i64 0, .int .i64 0, .int .i64 0, .int .u64 0, .string (⟨#[]⟩ : ByteArray)] 26 (0, 0)) (by refine bT ?_; refine bR ?_ NB268_275.out _; refine bT ?_; refine bR ?_ NB268_275.out _; refine bT ?_; refine bR ?_ NB268_275.out _; refine bT ?_; refine bR ?_ NB268_275.out _; refine bT ?_; refine bR ?_ NB268_275.out _; exact bT BK268.out) hb); have n1_ := Ax.mk (bB (g := gb275) (o := .cells #[.int .i64 (wrap64 (bt t270 0)), .int .i64 (wrap64 (t272)), .int .i64 (wrap64 (t273)), .int .u64 t274, .string (t270.extract 17 t270.size)] 26 (0, 0)) (by refine bT ?_; refine bU (cs := #[.int .i64 (wrap64 (bt t270 0)), .int .i64 (wrap64 (t272)), .int .i64 (wrap64 (t273)), .int .u64 t274, .string (⟨#[]⟩ : ByteArray)]) ?_ 4 _ rfl; refine bT ?_; refine bU (cs := #[.int .i64 (wrap64 (bt t270 0)), .int .i64 (wrap64 (t272)), .int .i64 (wrap64 (t273)), .int .u64 0, .string (⟨#[]⟩ : ByteArray)]) ?_ 3 _ rfl; refine bT ?_; refine bU (cs := #[.int .i64 (wrap64 (bt t270 0)), .int .i64 (wrap64 (t272)), .int .i64 0, .int .u64 0, .string (⟨#[]⟩ : ByteArray)]) ?_ 2 _ rfl; refine bT ?_; refine bU (cs := #[.int .i64 (wrap64 (bt t270 0)), .int .i64 0, .int .i64 0, .int .u64 0, .string (⟨#[]⟩ : ByteArray)]) ?_ 1 _ rfl; refine bT ?_; refine bU (cs := #[.int .i64 0, .int .i64 0, .int .i64 0, .int .u64 0, .string (⟨#[]⟩ : ByteArray)]) ?_ 0 _ rfl; exact bT BK275.out) hb); have n2_ := Ax.mk (bP bA hb); clear BK268; clear BK275; clear HB; have BK268 := n0_; have BK275 := n1_; have HB := n2_; clear n0_ n1_ n2_; (try clear hb); (try clear hb2); (try clear hk); (try clear hi)))
                   have n0_ := Ax.mk (blk_drew BK268.out)
                   have n1_ := Ax.mk (blk_drew BK275.out)
                   have n2_ := Ax.mk (below_drew1 HB.out)
                   clear BK268
                   clear BK275
                   clear HB
                   have BK268 := n0_
                   have BK275 := n1_
                   have HB := n2_
                   clear n0_ n1_ n2_
                   refine start_ (n := 8) (S := fun w' => w'.cell? ⟨gb275, 0, none⟩ = some (.int .i64 (wrap64 (bt t270 0))) ∧ w'.cell? ⟨gb275, 1, none⟩ = some (.int .i64 (wrap64 (t272))) ∧ w'.cell? ⟨gb275, 2, none⟩ = some (.int .i64 (wrap64 (t273))) ∧ w'.cell? ⟨gb275, 3, none⟩ = some (.int .u64 t274) ∧ w'.cell? ⟨gb275, 4, none⟩ = some (.string (t270.extract 17 t270.size))) (ds := []) (TF 0 8) (by kernel_rfl) rfl rfl ⟨(bC BK275.out 0).trans rfl, (bC BK275.out 1).trans rfl, (bC BK275.out 2).trans rfl, (bC BK275.out 3).trans rfl, (bC BK275.out 4).trans rfl⟩ (fun hHeld => ?_); refine with_tabW r12_Take.tab15 r12_Take.bits15 (fun HT_ HW_ => ?_)
                   generalize w57.drew = w58 at BK268 BK275 HB hHeld ⊢
                   refine pure_ (i := 1) (N := some 75) (v := ?_) (a' := ?_) (BT 8 2) rfl rfl (any_of HT_.out (by kernel_rfl)) (fun _ _ _ h => h) (Or.inl ⟨by rfl, ?_⟩) ?_ ?_
                   rotate_left; · intro w'; go_simp; with_reducible rfl
                   rotate_left; · simp only [Act.put, sI, sZ, sS, i64_w, i32_w]; rfl
                   refine pure_ (i := 2) (N := some 76) (v := ?_) (a' := ?_) (BT 8 6) rfl rfl (any_of HT_.out (by kernel_rfl)) (fun _ _ _ h => h) (Or.inl ⟨by rfl, ?_⟩) ?_ ?_
                   rotate_left; · intro w'; go_simp; with_reducible rfl
                   rotate_left; · simp only [Act.put, sI, sZ, sS, i64_w, i32_w]; rfl
                   refine pure_ (i := 3) (N := some 77) (v := ?_) (a' := ?_) (BT 8 14) rfl rfl (any_of HT_.out (by kernel_rfl)) (fun _ _ _ h => h) (Or.inl ⟨by rfl, ?_⟩) ?_ ?_
                   rotate_left; · intro w'; go_simp; with_reducible rfl
                   rotate_left; · simp only [Act.put, sI, sZ, sS, i64_w, i32_w]; rfl
                   refine pure_ (i := 4) (N := some 78) (v := ?_) (a' := ?_) (BT 8 30) rfl rfl (any_of HT_.out (by kernel_rfl)) (fun _ _ _ h => h) (Or.inl ⟨by rfl, ?_⟩) ?_ ?_
                   rotate_left; · intro w'; go_simp; with_reducible rfl
                   rotate_left; · simp only [Act.put, sI, sZ, sS, i64_w, i32_w]; rfl
                   refine take_ (i := 0) (N := some 74) (v := ?_) (a' := ?_) (TF 5 3) rfl rfl (take_ofW HT_.out HW_.out (by kernel_rfl)) (fun _ _ _ h => h) (Or.inl ⟨by rfl, ?_⟩) hHeld ?_ ?_
                   rotate_left
                   ·rintro w' ⟨s0, s1, s2, s3, s4⟩
                    go_simp
                    with_reducible rfl
                   rotate_left
                   ·simp only [Act.put, sI, sZ, sS, i64_w, i32_w]
                    rfl
                   refine one_ (i := 5) (N := none) (TF 6 2) rfl rfl (one_of HT_.out (by kernel_rfl)) (by decide) (fun K hK => ?_)
                   have hs59 : w58.cell? ⟨gb268, 0, none⟩ = some (.int .i64 0) := (bC BK268.out 0).trans rfl
                   have hfs59 := bF BK268.out 0
                   have hns59_1 := NB275_268.out
                   have hms59_1 := NB268_275.out
                   have hs60 : w58.cell? ⟨gb268, 1, none⟩ = some (.int .i64 0) := (bC BK268.out 1).trans rfl
                   have hfs60 := bF BK268.out 1
                   have hns60_1 := NB275_268.out
                   have hms60_1 := NB268_275.out
                   have hs61 : w58.cell? ⟨gb268, 2, none⟩ = some (.int .i64 0) := (bC BK268.out 2).trans rfl
                   have hfs61 := bF BK268.out 2
                   have hns61_1 := NB275_268.out
                   have hms61_1 := NB268_275.out
                   have hs62 : w58.cell? ⟨gb268, 3, none⟩ = some (.int .u64 0) := (bC BK268.out 3).trans rfl
                   have hfs62 := bF BK268.out 3
                   have hns62_1 := NB275_268.out
                   have hms62_1 := NB268_275.out
                   have hs63 : w58.cell? ⟨gb268, 4, none⟩ = some (.string (⟨#[]⟩ : ByteArray)) := (bC BK268.out 4).trans rfl
                   have hfs63 := bF BK268.out 4
                   have hns63_1 := NB275_268.out
                   have hms63_1 := NB268_275.out
                   refine skip_ (w1 := ?_) (by rfl) rfl ?_ ?_
                   rotate_left
                   ·go_simp
                    rfl
                   refine hK.out _ _ ⟨((cell_far (p := ⟨gb268, _, none⟩) NB275_268.out _).trans (((cell_far (p := ⟨gb268, _, none⟩) NB275_268.out _).trans (((cell_far (p := ⟨gb268, _, none⟩) NB275_268.out _).trans (((cell_far (p := ⟨gb268, _, none⟩) NB275_268.out _).trans (((cell_far (p := ⟨gb268, _, none⟩) NB275_268.out _).trans (hHeld.1)))))))))), ((cell_far (p := ⟨gb268, _, none⟩) NB275_268.out _).trans (((cell_far (p := ⟨gb268, _, none⟩) NB275_268.out _).trans (((cell_far (p := ⟨gb268, _, none⟩) NB275_268.out _).trans (((cell_far (p := ⟨gb268, _, none⟩) NB275_268.out _).trans (((cell_far (p := ⟨gb268, _, none⟩) NB275_268.out _).trans (hHeld.2.1)))))))))), ((cell_far (p := ⟨gb268, _, none⟩) NB275_268.out _).trans (((cell_far (p := ⟨gb268, _, none⟩) NB275_268.out _).trans (((cell_far (p := ⟨gb268, _, none⟩) NB275_268.out _).trans (((cell_far (p := ⟨gb268, _, none⟩) NB275_268.out _).trans (((cell_far (p := ⟨gb268, _, none⟩) NB275_268.out _).trans (hHeld.2.2.1)))))))))), ((cell_far (p := ⟨gb268, _, none⟩) NB275_268.out _).trans (((cell_far (p := ⟨gb268, _, none⟩) NB275_268.out _).trans (((cell_far (p := ⟨gb268, _, none⟩) NB275_268.out _).trans (((cell_far (p := ⟨gb268, _, none⟩) NB275_268.out _).trans (((cell_far (p := ⟨gb268, _, none⟩) NB275_268.out _).trans (hHeld.2.2.2.1)))))))))), ((cell_far (p := ⟨gb268, _, none⟩) NB275_268.out _).trans (((cell_far (p := ⟨gb268, _, none⟩) NB275_268.out _).trans (((cell_far (p := ⟨gb268, _, none⟩) NB275_268.out _).trans (((cell_far (p := ⟨gb268, _, none⟩) NB275_268.out _).trans (((cell_far (p := ⟨gb268, _, none⟩) NB275_268.out _).trans (hHeld.2.2.2.2))))))))))⟩ (fun hHeld => ?_)
                   clear hK K
                   refine pure_ (i := 6) (N := some 3) (v := ?_) (a' := ?_) (TF 7 1) rfl rfl (any_of HT_.out (by kernel_rfl)) (fun _ _ _ h => h) (Or.inl ⟨by rfl, ?_⟩) ?_ ?_
                   rotate_left; · intro w'; go_simp; with_reducible rfl
                   rotate_left; · simp only [Act.put, sI, sZ, sS, i64_w, i32_w]; rfl
                   refine pure_ (i := 7) (N := some 4) (v := ?_) (a' := ?_) (TF 8 0) rfl rfl (any_of HT_.out (by kernel_rfl)) (fun _ _ _ h => h) (Or.inl ⟨by rfl, ?_⟩) ?_ ?_
                   rotate_left; · intro w'; go_simp; with_reducible rfl
                   rotate_left; · simp only [Act.put, sI, sZ, sS, i64_w, i32_w]; rfl
                   refine done_ (done_of HT_.out (by kernel_rfl)) ?_
                   try go_wp2
                   refine bodyPost_ret (results_ctt rfl _ _ gb268 26 #[.int .i64 (wrap64 (bt t270 0)), .int .i64 (wrap64 (t272)), .int .i64 (wrap64 (t273)), .int .u64 t274, .string (t270.extract 17 t270.size)] (0, 0) _ rfl (by refine bT ?_; refine bU (cs := #[.int .i64 (wrap64 (bt t270 0)), .int .i64 (wrap64 (t272)), .int .i64 (wrap64 (t273)), .int .u64 t274, .string (⟨#[]⟩ : ByteArray)]) ?_ 4 _ rfl; refine bT ?_; refine bU (cs := #[.int .i64 (wrap64 (bt t270 0)), .int .i64 (wrap64 (t272)), .int .i64 (wrap64 (t273)), .int .u64 0, .string (⟨#[]⟩ : ByteArray)]) ?_ 3 _ rfl; refine bT ?_; refine bU (cs := #[.int .i64 (wrap64 (bt t270 0)), .int .i64 (wrap64 (t272)), .int .i64 0, .int .u64 0, .string (⟨#[]⟩ : ByteArray)]) ?_ 2 _ rfl; refine bT ?_; refine bU (cs := #[.int .i64 (wrap64 (bt t270 0)), .int .i64 0, .int .i64 0, .int .u64 0, .string (⟨#[]⟩ : ByteArray)]) ?_ 1 _ rfl; refine bT ?_; refine bU (cs := #[.int .i64 0, .int .i64 0, .int .i64 0, .int .u64 0, .string (⟨#[]⟩ : ByteArray)]) ?_ 0 _ rfl; exact bT BK268.out) Tryd.underlying26 rfl (by kernel_rfl)) rfl ?_
                   exact ⟨by first | rfl | (simp [errW_none, errW_some] <;> rfl) | (simp only [← hji35]; first | rfl | (simp [errW_none, errW_some] <;> rfl)) | (simp [*, errW_none, errW_some] <;> rfl), bA⟩
                  ·rw [if_neg c38] at H
                   have c38b0 : (t276.toList == (a0.extract 0 ((ji35) : Int).toNat).toList) = false := beq_eq_false_iff_ne.mpr c38
                   have c38b1 : (t276.toList != (a0.extract 0 ((ji35) : Int).toNat).toList) = true := bne_iff_ne.mpr c38
                   simp only [Option.some.injEq, Prod.mk.injEq] at H
                   obtain ⟨rfl, rfl, rfl, rfl, rfl, rfl, rfl⟩ := H
                   go_enter Tryd.func28, Tryd.ntmps28
                   try go_wp2_with (first | ((with_reducible refine gate_dst (N := 2) rfl ?_); refine box_event ?hg (N := 2) ?hd (cs := #[.int .i64 0, .int .i64 0, .int .i64 0, .int .u64 0, .string (⟨#[]⟩ : ByteArray)]) (t := 26) ?hr ?_; (case hd => rfl); (case hg => rfl); (case hr => first | (go_simp; done) | (go_simp; rfl)); intro gb268 hg w64 hbox hb; have n0_ := Ax.mk (bP bA hb); have n1_ := Ax.mk (hbox); have n2_ := Ax.mk ((ge_new hg : w.heap.size ≤ gb268)); have n3_ := n2_; clear HB; have HB := n0_; have BK268 := n1_; have GW268 := n2_; have GE268 := n3_; clear n0_ n1_ n2_ n3_; clear hb hbox hg) | ((with_reducible refine gate_callee (f := 57) rfl ?_); refine goesL_ (some 17) rfl rfl Tryd.func57 (by kernel_rfl) rfl #[.string (a0.extract 0 2)] rfl (by (try simp only [List.map_toArray, List.map_cons, List.map_nil]); first | done | rfl | (simp only [List.length_drop, List.length_take]; rfl) | (rw [wrap_sum2 (by assumption)]; rfl)) ?_; (with_reducible refine (r2_Get.calls k (a0.extract 0 2) t269 _ A7.out).mono ?_); rintro e w65 ⟨rfl, hb⟩; refine ⟨_, rfl, ?_⟩; have n0_ := Ax.mk (bB (bT BK268.out) hb); have n1_ := Ax.mk (bP bA hb); clear BK268; clear HB; have BK268 := n0_; have HB := n1_; clear n0_ n1_; (try clear hb); (try clear hb2); (try clear hk); (try clear hi)) | ((with_reducible refine gate_callee (f := 58) rfl ?_); refine goesL_ (some 30) rfl rfl Tryd.func58 (by kernel_rfl) rfl #[.string (a0.extract 2 ((ji35) : Int).toNat)] rfl (by (try simp only [List.map_toArray, List.map_cons, List.map_nil]); first | done | (simp only [hji35]; rfl) | rfl | (simp only [List.length_drop, List.length_take]; rfl) | (rw [wrap_sum2 (by assumption)]; rfl)) ?_; (with_reducible refine (r3_Take.calls k (a0.extract 2 ((ji35) : Int).toNat) t270 t271 _ A14.out).mono ?_); rintro e w66 ⟨rfl, hb⟩; refine ⟨_, rfl, ?_⟩; have n0_ := Ax.mk (bB (bT BK268.out) hb); have n1_ := Ax.mk (bP bA hb); clear BK268; clear HB; have BK268 := n0_; have HB := n1_; clear n0_ n1_; (try clear hb); (try clear hb2); (try clear hk); (try clear hi)))
                   have n0_ := Ax.mk (blk_drew BK268.out)
                   have n1_ := Ax.mk (below_drew1 HB.out)
                   clear BK268
                   clear HB
                   have BK268 := n0_
                   have HB := n1_
                   clear n0_ n1_
                   have p22 : 0 ≤ (0 : Int) := (by omega)
                   have q22 : 0 < t270.size := (by have : (0 : Int) < (t270.size : Int) := ofD; omega)
                   have hx22 : ∀ h : 0 < t270.size, ((t270[0]'h).toNat : Int) = bt t270 0 := bt_at t270 0
                   clear p22
                   have qi22 : (0 < (t270.size : Int)) = True := eq_true (ofD)
                   replace q22 := eq_true q22
                   refine start_ (n := 19) (S := fun w' => True) (ds := []) (TF 0 19) (by kernel_rfl) rfl rfl trivial (fun hHeld => ?_); refine with_tabW r12_Take.tab11 r12_Take.bits11 (fun HT_ HW_ => ?_)
                   generalize w66.drew = w67 at BK268 HB hHeld ⊢
                   refine pure_ (i := 0) (N := some 41) (v := ?_) (a' := ?_) (TF 1 18) rfl rfl (any_of HT_.out (by kernel_rfl)) (fun _ _ _ h => h) (Or.inl ⟨by rfl, ?_⟩) ?_ ?_
                   rotate_left; · intro w'; go_simp; with_reducible rfl
                   rotate_left; · simp only [Act.put, sI, sZ, sS, i64_w, i32_w]; rfl
                   refine pure_ (i := 3) (N := some 44) (v := ?_) (a' := ?_) (BT 19 9) rfl rfl (any_of HT_.out (by kernel_rfl)) (fun _ _ _ h => h) (Or.inl ⟨by rfl, ?_⟩) ?_ ?_
                   rotate_left; · intro w'; go_simp; with_reducible rfl
                   rotate_left; · simp only [Act.put, sI, sZ, sS, i64_w, i32_w]; rfl
                   refine pure_ (i := 4) (N := some 45) (v := ?_) (a' := ?_) (BT 19 25) rfl rfl (any_of HT_.out (by kernel_rfl)) (fun _ _ _ h => h) (Or.inl ⟨by rfl, ?_⟩) ?_ ?_
                   rotate_left; · intro w'; go_simp; with_reducible rfl
                   rotate_left; · simp only [Act.put, sI, sZ, sS, i64_w, i32_w]; rfl
                   refine pure_ (i := 7) (N := some 48) (v := ?_) (a' := ?_) (BT 19 153) rfl rfl (any_of HT_.out (by kernel_rfl)) (fun _ _ _ h => h) (Or.inl ⟨by rfl, ?_⟩) ?_ ?_
                   rotate_left; · intro w'; go_simp; with_reducible rfl
                   rotate_left; · simp only [Act.put, sI, sZ, sS, i64_w, i32_w]; rfl
                   refine pure_ (i := 8) (N := some 49) (v := ?_) (a' := ?_) (BT 19 409) rfl rfl (any_of HT_.out (by kernel_rfl)) (fun _ _ _ h => h) (Or.inl ⟨by rfl, ?_⟩) ?_ ?_
                   rotate_left; · intro w'; go_simp; with_reducible rfl
                   rotate_left; · simp only [Act.put, sI, sZ, sS, i64_w, i32_w]; rfl
                   refine pure_ (i := 11) (N := some 52) (v := ?_) (a' := ?_) (BT 19 2457) rfl rfl (any_of HT_.out (by kernel_rfl)) (fun _ _ _ h => h) (Or.inl ⟨by rfl, ?_⟩) ?_ ?_
                   rotate_left; · intro w'; go_simp; with_reducible rfl
                   rotate_left; · simp only [Act.put, sI, sZ, sS, i64_w, i32_w]; rfl
                   refine pure_ (i := 12) (N := some 53) (v := ?_) (a' := ?_) (BT 19 6553) rfl rfl (any_of HT_.out (by kernel_rfl)) (fun _ _ _ h => h) (Or.inl ⟨by rfl, ?_⟩) ?_ ?_
                   rotate_left; · intro w'; go_simp; with_reducible rfl
                   rotate_left; · simp only [Act.put, sI, sZ, sS, i64_w, i32_w]; rfl
                   refine pure_ (i := 14) (N := some 55) (v := ?_) (a' := ?_) (BT 19 22937) rfl rfl (any_of HT_.out (by kernel_rfl)) (fun _ _ _ h => h) (Or.inl ⟨by rfl, ?_⟩) ?_ ?_
                   rotate_left; · intro w'; go_simp; with_reducible rfl
                   rotate_left; · simp only [Act.put, sI, sZ, sS, i64_w, i32_w]; rfl
                   refine pure_ (i := 15) (N := some 56) (v := ?_) (a' := ?_) (BT 19 55705) rfl rfl (any_of HT_.out (by kernel_rfl)) (fun _ _ _ h => h) (Or.inl ⟨by rfl, ?_⟩) ?_ ?_
                   rotate_left; · intro w'; go_simp; with_reducible rfl
                   rotate_left; · simp only [Act.put, sI, sZ, sS, i64_w, i32_w]; rfl
                   refine take_ (i := 1) (N := some 42) (v := ?_) (a' := ?_) (BT 19 55707) rfl rfl (take_ofW HT_.out HW_.out (by kernel_rfl)) (fun _ _ _ h => h) (Or.inl ⟨by rfl, ?_⟩) hHeld ?_ ?_
                   rotate_left
                   ·intro w' _
                    go_simp
                    with_reducible rfl
                   rotate_left
                   ·simp only [Act.put, sI, sZ, sS, i64_w, i32_w]
                    rfl
                   refine pure_ (i := 2) (N := some 43) (v := ?_) (a' := ?_) (BT 19 55711) rfl rfl (any_of HT_.out (by kernel_rfl)) (fun _ _ _ h => h) (Or.inl ⟨by rfl, ?_⟩) ?_ ?_
                   rotate_left; · intro w'; go_simp; with_reducible rfl
                   rotate_left; · simp only [Act.put, sI, sZ, sS, i64_w, i32_w]; rfl
                   refine join_ (σ := Nat) 1 (TF 18 1) (fun s_ => [(46, .int .u64 t272), (50, .int .u64 t273), (54, .int .u64 t274), (8, .pointer (some ⟨s_, 0, none⟩)), (47, .int .i64 (wrap64 (t272))), (51, .int .i64 (wrap64 (t273))), (57, .agg #[.int .i64 (wrap64 (bt t270 0)), .int .i64 (wrap64 (t272)), .int .i64 (wrap64 (t273)), .int .u64 t274, .string (t270.extract 17 t270.size)])]) (fun s_ w' => (w'.heap[gb268]? = some (.cells #[.int .i64 0, .int .i64 0, .int .i64 0, .int .u64 0, .string (⟨#[]⟩ : ByteArray)] 26 (0, 0))) ∧ (w'.heap[s_]? = some (.cells #[.int .i64 0, .int .i64 0, .int .i64 0, .int .u64 0, .string (⟨#[]⟩ : ByteArray)] 26 (0, 0))) ∧ (w.heap.size ≤ s_) ∧ (w.heap.size ≤ s_) ∧ (gb268 ≠ s_) ∧ (s_ ≠ gb268) ∧ (Below w.heap.size w w')) ?_ ?_
                   rotate_left
                   ·intro hCont
                    refine two_ (i := 5) (j := 17) (Ni := some 46) (Nj := some 8) (BT 19 55743) (BT 19 186783) rfl rfl rfl rfl (two_of HT_.out (by kernel_rfl)) (by decide) (by decide) (fun K hK => ?_) (fun K hK => ?_)
                    ·skip
                     refine goes_ Tryd.func57 (by kernel_rfl) rfl #[.string (t270.extract 1 5)] (by rfl) rfl rfl (by (try simp only [List.map_toArray, List.map_cons, List.map_nil]); first | done | rfl | (simp only [List.length_drop, List.length_take]; rfl) | (rw [wrap_sum2 (by assumption)]; rfl)) ?_
                     with_reducible refine (r2_Get.calls k (t270.extract 1 5) t272 _ A25.out).mono ?_
                     rintro e w68 ⟨rfl, hb⟩
                     refine ⟨_, rfl, ?_⟩
                     have n0_ := Ax.mk (bB (bT BK268.out) hb)
                     have n1_ := Ax.mk (bP bA hb)
                     clear BK268
                     clear HB
                     have BK268 := n0_
                     have HB := n1_
                     clear n0_ n1_
                     (try clear hb)
                     (try clear hb2)
                     (try clear hk)
                     (try clear hi)
                     refine hK.out _ _ trivial (fun hHeld => ?_)
                     clear hK K
                     refine norm_ (a' := ?_) ?_ ?_
                     rotate_left
                     ·show Act.put _ (some 46) _ = _
                      simp only [Act.put, sI, sZ, sS, i64_w, i32_w]
                      rfl
                     refine pure_ (i := 6) (N := some 47) (v := ?_) (a' := ?_) (BT 19 55807) rfl rfl (any_of HT_.out (by kernel_rfl)) (fun _ _ _ h => h) (Or.inl ⟨by rfl, ?_⟩) ?_ ?_
                     rotate_left; · intro w'; go_simp; with_reducible rfl
                     rotate_left; · simp only [Act.put, sI, sZ, sS, i64_w, i32_w]; rfl
                     refine two_ (i := 9) (j := 17) (Ni := some 50) (Nj := some 8) (BT 19 56319) (BT 19 186879) rfl rfl rfl rfl (two_of HT_.out (by kernel_rfl)) (by decide) (by decide) (fun K hK => ?_) (fun K hK => ?_)
                     ·skip
                      refine goes_ Tryd.func57 (by kernel_rfl) rfl #[.string (t270.extract 5 9)] (by rfl) rfl rfl (by (try simp only [List.map_toArray, List.map_cons, List.map_nil]); first | done | rfl | (simp only [List.length_drop, List.length_take]; rfl) | (rw [wrap_sum2 (by assumption)]; rfl)) ?_
                      with_reducible refine (r2_Get.calls k (t270.extract 5 9) t273 _ A28.out).mono ?_
                      rintro e w69 ⟨rfl, hb⟩
                      refine ⟨_, rfl, ?_⟩
                      have n0_ := Ax.mk (bB (bT BK268.out) hb)
                      have n1_ := Ax.mk (bP bA hb)
                      clear BK268
                      clear HB
                      have BK268 := n0_
                      have HB := n1_
                      clear n0_ n1_
                      (try clear hb)
                      (try clear hb2)
                      (try clear hk)
                      (try clear hi)
                      refine hK.out _ _ trivial (fun hHeld => ?_)
                      clear hK K
                      refine norm_ (a' := ?_) ?_ ?_
                      rotate_left
                      ·show Act.put _ (some 50) _ = _
                       simp only [Act.put, sI, sZ, sS, i64_w, i32_w]
                       rfl
                      refine pure_ (i := 10) (N := some 51) (v := ?_) (a' := ?_) (BT 19 57343) rfl rfl (any_of HT_.out (by kernel_rfl)) (fun _ _ _ h => h) (Or.inl ⟨by rfl, ?_⟩) ?_ ?_
                      rotate_left; · intro w'; go_simp; with_reducible rfl
                      rotate_left; · simp only [Act.put, sI, sZ, sS, i64_w, i32_w]; rfl
                      refine two_ (i := 13) (j := 17) (Ni := some 54) (Nj := some 8) (TF 16 3) (BT 19 188415) rfl rfl rfl rfl (two_of HT_.out (by kernel_rfl)) (by decide) (by decide) (fun K hK => ?_) (fun K hK => ?_)
                      ·skip
                       refine goes_ Tryd.func57 (by kernel_rfl) rfl #[.string (t270.extract 9 17)] (by rfl) rfl rfl (by (try simp only [List.map_toArray, List.map_cons, List.map_nil]); first | done | rfl | (simp only [List.length_drop, List.length_take]; rfl) | (rw [wrap_sum2 (by assumption)]; rfl)) ?_
                       with_reducible refine (r2_Get.calls k (t270.extract 9 17) t274 _ A31.out).mono ?_
                       rintro e w70 ⟨rfl, hb⟩
                       refine ⟨_, rfl, ?_⟩
                       have n0_ := Ax.mk (bB (bT BK268.out) hb)
                       have n1_ := Ax.mk (bP bA hb)
                       clear BK268
                       clear HB
                       have BK268 := n0_
                       have HB := n1_
                       clear n0_ n1_
                       (try clear hb)
                       (try clear hb2)
                       (try clear hk)
                       (try clear hi)
                       refine hK.out _ _ trivial (fun hHeld => ?_)
                       clear hK K
                       refine norm_ (a' := ?_) ?_ ?_
                       rotate_left
                       ·show Act.put _ (some 54) _ = _
                        simp only [Act.put, sI, sZ, sS, i64_w, i32_w]
                        rfl
                       refine pure_ (i := 16) (N := some 57) (v := ?_) (a' := ?_) (TF 17 2) rfl rfl (any_of HT_.out (by kernel_rfl)) (fun _ _ _ h => h) (Or.inl ⟨by rfl, ?_⟩) ?_ ?_
                       rotate_left; · intro w'; go_simp; with_reducible rfl
                       rotate_left; · simp only [Act.put, sI, sZ, sS, i64_w, i32_w]; rfl
                       refine one_ (i := 17) (N := some 8) (TF 18 1) rfl rfl (one_of HT_.out (by kernel_rfl)) (by decide) (fun K hK => ?_)
                       refine box_step ?hg (N := 8) ?hd (cs := #[.int .i64 0, .int .i64 0, .int .i64 0, .int .u64 0, .string (⟨#[]⟩ : ByteArray)]) (t := 26) ?hr ?_; (case hd => rfl); (case hg => rfl); (case hr => first | (go_simp; done) | (go_simp; rfl))
                       intro gb275 hg w71 hbox hb
                       have n0_ := Ax.mk (bB (bT BK268.out) hb)
                       have n1_ := Ax.mk (bP bA hb)
                       have n2_ := Ax.mk (hbox)
                       have n3_ := Ax.mk ((ge_new hg : w.heap.size ≤ gb275))
                       have n4_ := Ax.mk ((ge_new hg : w.heap.size ≤ gb275))
                       have n5_ := Ax.mk ((ne_lt hg BK268.out : gb268 ≠ gb275))
                       have n6_ := Ax.mk ((ne_gt hg BK268.out : gb275 ≠ gb268))
                       clear BK268
                       clear HB
                       have BK268 := n0_
                       have HB := n1_
                       have BK275 := n2_
                       have GW275 := n3_
                       have GE275 := n4_
                       have NB268_275 := n5_
                       have NB275_268 := n6_
                       clear n0_ n1_ n2_ n3_ n4_ n5_ n6_
                       clear hb hbox hg
                       refine hK.out _ _ trivial (fun hHeld => ?_)
                       clear hK K
                       refine norm_ (a' := ?_) ?_ ?_
                       rotate_left
                       ·show Act.put _ (some 8) _ = _
                        simp only [Act.put, sI, sZ, sS, i64_w, i32_w]
                        rfl
                       exact norm_ (by simp only [putAll, Act.put, sI, sZ, sS]) (hCont (gb275) _ ⟨(bT BK268.out), (bT BK275.out), GW275.out, GE275.out, NB268_275.out, NB275_268.out, bA⟩)
                      ·skip
                       refine box_step ?hg (N := 8) ?hd (cs := #[.int .i64 0, .int .i64 0, .int .i64 0, .int .u64 0, .string (⟨#[]⟩ : ByteArray)]) (t := 26) ?hr ?_; (case hd => rfl); (case hg => rfl); (case hr => first | (go_simp; done) | (go_simp; rfl))
                       intro gb275 hg w70 hbox hb
                       have n0_ := Ax.mk (bB (bT BK268.out) hb)
                       have n1_ := Ax.mk (bP bA hb)
                       have n2_ := Ax.mk (hbox)
                       have n3_ := Ax.mk ((ge_new hg : w.heap.size ≤ gb275))
                       have n4_ := Ax.mk ((ge_new hg : w.heap.size ≤ gb275))
                       have n5_ := Ax.mk ((ne_lt hg BK268.out : gb268 ≠ gb275))
                       have n6_ := Ax.mk ((ne_gt hg BK268.out : gb275 ≠ gb268))
                       clear BK268
                       clear HB
                       have BK268 := n0_
                       have HB := n1_
                       have BK275 := n2_
                       have GW275 := n3_
                       have GE275 := n4_
                       have NB268_275 := n5_
                       have NB275_268 := n6_
                       clear n0_ n1_ n2_ n3_ n4_ n5_ n6_
                       clear hb hbox hg
                       refine hK.out _ _ trivial (fun hHeld => ?_)
                       clear hK K
                       refine norm_ (a' := ?_) ?_ ?_
                       rotate_left
                       ·show Act.put _ (some 8) _ = _
                        simp only [Act.put, sI, sZ, sS, i64_w, i32_w]
                        rfl
                       refine one_ (i := 13) (N := some 54) (BT 19 196607) rfl rfl (one_of HT_.out (by kernel_rfl)) (by decide) (fun K hK => ?_)
                       refine goes_ Tryd.func57 (by kernel_rfl) rfl #[.string (t270.extract 9 17)] (by rfl) rfl rfl (by (try simp only [List.map_toArray, List.map_cons, List.map_nil]); first | done | rfl | (simp only [List.length_drop, List.length_take]; rfl) | (rw [wrap_sum2 (by assumption)]; rfl)) ?_
                       with_reducible refine (r2_Get.calls k (t270.extract 9 17) t274 _ A31.out).mono ?_
                       rintro e w71 ⟨rfl, hb⟩
                       refine ⟨_, rfl, ?_⟩
                       have n0_ := Ax.mk (bB (bT BK268.out) hb)
                       have n1_ := Ax.mk (bB (bT BK275.out) hb)
                       have n2_ := Ax.mk (bP bA hb)
                       clear BK268
                       clear BK275
                       clear HB
                       have BK268 := n0_
                       have BK275 := n1_
                       have HB := n2_
                       clear n0_ n1_ n2_
                       (try clear hb)
                       (try clear hb2)
                       (try clear hk)
                       (try clear hi)
                       refine hK.out _ _ trivial (fun hHeld => ?_)
                       clear hK K
                       refine norm_ (a' := ?_) ?_ ?_
                       rotate_left
                       ·show Act.put _ (some 54) _ = _
                        simp only [Act.put, sI, sZ, sS, i64_w, i32_w]
                        rfl
                       refine pure_ (i := 16) (N := some 57) (v := ?_) (a' := ?_) (TF 18 1) rfl rfl (any_of HT_.out (by kernel_rfl)) (fun _ _ _ h => h) (Or.inl ⟨by rfl, ?_⟩) ?_ ?_
                       rotate_left; · intro w'; go_simp; with_reducible rfl
                       rotate_left; · simp only [Act.put, sI, sZ, sS, i64_w, i32_w]; rfl
                       exact norm_ (by simp only [putAll, Act.put, sI, sZ, sS]) (hCont (gb275) _ ⟨(bT BK268.out), (bT BK275.out), GW275.out, GE275.out, NB268_275.out, NB275_268.out, bA⟩)
                     ·skip
                      refine box_step ?hg (N := 8) ?hd (cs := #[.int .i64 0, .int .i64 0, .int .i64 0, .int .u64 0, .string (⟨#[]⟩ : ByteArray)]) (t := 26) ?hr ?_; (case hd => rfl); (case hg => rfl); (case hr => first | (go_simp; done) | (go_simp; rfl))
                      intro gb275 hg w69 hbox hb
                      have n0_ := Ax.mk (bB (bT BK268.out) hb)
                      have n1_ := Ax.mk (bP bA hb)
                      have n2_ := Ax.mk (hbox)
                      have n3_ := Ax.mk ((ge_new hg : w.heap.size ≤ gb275))
                      have n4_ := Ax.mk ((ge_new hg : w.heap.size ≤ gb275))
                      have n5_ := Ax.mk ((ne_lt hg BK268.out : gb268 ≠ gb275))
                      have n6_ := Ax.mk ((ne_gt hg BK268.out : gb275 ≠ gb268))
                      clear BK268
                      clear HB
                      have BK268 := n0_
                      have HB := n1_
                      have BK275 := n2_
                      have GW275 := n3_
                      have GE275 := n4_
                      have NB268_275 := n5_
                      have NB275_268 := n6_
                      clear n0_ n1_ n2_ n3_ n4_ n5_ n6_
                      clear hb hbox hg
                      refine hK.out _ _ trivial (fun hHeld => ?_)
                      clear hK K
                      refine norm_ (a' := ?_) ?_ ?_
                      rotate_left
                      ·show Act.put _ (some 8) _ = _
                       simp only [Act.put, sI, sZ, sS, i64_w, i32_w]
                       rfl
                      refine one_ (i := 9) (N := some 50) (BT 19 187391) rfl rfl (one_of HT_.out (by kernel_rfl)) (by decide) (fun K hK => ?_)
                      refine goes_ Tryd.func57 (by kernel_rfl) rfl #[.string (t270.extract 5 9)] (by rfl) rfl rfl (by (try simp only [List.map_toArray, List.map_cons, List.map_nil]); first | done | rfl | (simp only [List.length_drop, List.length_take]; rfl) | (rw [wrap_sum2 (by assumption)]; rfl)) ?_
                      with_reducible refine (r2_Get.calls k (t270.extract 5 9) t273 _ A28.out).mono ?_
                      rintro e w70 ⟨rfl, hb⟩
                      refine ⟨_, rfl, ?_⟩
                      have n0_ := Ax.mk (bB (bT BK268.out) hb)
                      have n1_ := Ax.mk (bB (bT BK275.out) hb)
                      have n2_ := Ax.mk (bP bA hb)
                      clear BK268
                      clear BK275
                      clear HB
                      have BK268 := n0_
                      have BK275 := n1_
                      have HB := n2_
                      clear n0_ n1_ n2_
                      (try clear hb)
                      (try clear hb2)
                      (try clear hk)
                      (try clear hi)
                      refine hK.out _ _ trivial (fun hHeld => ?_)
                      clear hK K
                      refine norm_ (a' := ?_) ?_ ?_
                      rotate_left
                      ·show Act.put _ (some 50) _ = _
                       simp only [Act.put, sI, sZ, sS, i64_w, i32_w]
                       rfl
                      refine pure_ (i := 10) (N := some 51) (v := ?_) (a' := ?_) (BT 19 188415) rfl rfl (any_of HT_.out (by kernel_rfl)) (fun _ _ _ h => h) (Or.inl ⟨by rfl, ?_⟩) ?_ ?_
                      rotate_left; · intro w'; go_simp; with_reducible rfl
                      rotate_left; · simp only [Act.put, sI, sZ, sS, i64_w, i32_w]; rfl
                      refine one_ (i := 13) (N := some 54) (BT 19 196607) rfl rfl (one_of HT_.out (by kernel_rfl)) (by decide) (fun K hK => ?_)
                      refine goes_ Tryd.func57 (by kernel_rfl) rfl #[.string (t270.extract 9 17)] (by rfl) rfl rfl (by (try simp only [List.map_toArray, List.map_cons, List.map_nil]); first | done | rfl | (simp only [List.length_drop, List.length_take]; rfl) | (rw [wrap_sum2 (by assumption)]; rfl)) ?_
                      with_reducible refine (r2_Get.calls k (t270.extract 9 17) t274 _ A31.out).mono ?_
                      rintro e w71 ⟨rfl, hb⟩
                      refine ⟨_, rfl, ?_⟩
                      have n0_ := Ax.mk (bB (bT BK268.out) hb)
                      have n1_ := Ax.mk (bB (bT BK275.out) hb)
                      have n2_ := Ax.mk (bP bA hb)
                      clear BK268
                      clear BK275
                      clear HB
                      have BK268 := n0_
                      have BK275 := n1_
                      have HB := n2_
                      clear n0_ n1_ n2_
                      (try clear hb)
                      (try clear hb2)
                      (try clear hk)
                      (try clear hi)
                      refine hK.out _ _ trivial (fun hHeld => ?_)
                      clear hK K
                      refine norm_ (a' := ?_) ?_ ?_
                      rotate_left
                      ·show Act.put _ (some 54) _ = _
                       simp only [Act.put, sI, sZ, sS, i64_w, i32_w]
                       rfl
                      refine pure_ (i := 16) (N := some 57) (v := ?_) (a' := ?_) (TF 18 1) rfl rfl (any_of HT_.out (by kernel_rfl)) (fun _ _ _ h => h) (Or.inl ⟨by rfl, ?_⟩) ?_ ?_
                      rotate_left; · intro w'; go_simp; with_reducible rfl
                      rotate_left; · simp only [Act.put, sI, sZ, sS, i64_w, i32_w]; rfl
                      exact norm_ (by simp only [putAll, Act.put, sI, sZ, sS]) (hCont (gb275) _ ⟨(bT BK268.out), (bT BK275.out), GW275.out, GE275.out, NB268_275.out, NB275_268.out, bA⟩)
                    ·skip
                     refine box_step ?hg (N := 8) ?hd (cs := #[.int .i64 0, .int .i64 0, .int .i64 0, .int .u64 0, .string (⟨#[]⟩ : ByteArray)]) (t := 26) ?hr ?_; (case hd => rfl); (case hg => rfl); (case hr => first | (go_simp; done) | (go_simp; rfl))
                     intro gb275 hg w68 hbox hb
                     have n0_ := Ax.mk (bB (bT BK268.out) hb)
                     have n1_ := Ax.mk (bP bA hb)
                     have n2_ := Ax.mk (hbox)
                     have n3_ := Ax.mk ((ge_new hg : w.heap.size ≤ gb275))
                     have n4_ := Ax.mk ((ge_new hg : w.heap.size ≤ gb275))
                     have n5_ := Ax.mk ((ne_lt hg BK268.out : gb268 ≠ gb275))
                     have n6_ := Ax.mk ((ne_gt hg BK268.out : gb275 ≠ gb268))
                     clear BK268
                     clear HB
                     have BK268 := n0_
                     have HB := n1_
                     have BK275 := n2_
                     have GW275 := n3_
                     have GE275 := n4_
                     have NB268_275 := n5_
                     have NB275_268 := n6_
                     clear n0_ n1_ n2_ n3_ n4_ n5_ n6_
                     clear hb hbox hg
                     refine hK.out _ _ trivial (fun hHeld => ?_)
                     clear hK K
                     refine norm_ (a' := ?_) ?_ ?_
                     rotate_left
                     ·show Act.put _ (some 8) _ = _
                      simp only [Act.put, sI, sZ, sS, i64_w, i32_w]
                      rfl
                     refine one_ (i := 5) (N := some 46) (BT 19 186815) rfl rfl (one_of HT_.out (by kernel_rfl)) (by decide) (fun K hK => ?_)
                     refine goes_ Tryd.func57 (by kernel_rfl) rfl #[.string (t270.extract 1 5)] (by rfl) rfl rfl (by (try simp only [List.map_toArray, List.map_cons, List.map_nil]); first | done | rfl | (simp only [List.length_drop, List.length_take]; rfl) | (rw [wrap_sum2 (by assumption)]; rfl)) ?_
                     with_reducible refine (r2_Get.calls k (t270.extract 1 5) t272 _ A25.out).mono ?_
                     rintro e w69 ⟨rfl, hb⟩
                     refine ⟨_, rfl, ?_⟩
                     have n0_ := Ax.mk (bB (bT BK268.out) hb)
                     have n1_ := Ax.mk (bB (bT BK275.out) hb)
                     have n2_ := Ax.mk (bP bA hb)
                     clear BK268
                     clear BK275
                     clear HB
                     have BK268 := n0_
                     have BK275 := n1_
                     have HB := n2_
                     clear n0_ n1_ n2_
                     (try clear hb)
                     (try clear hb2)
                     (try clear hk)
                     (try clear hi)
                     refine hK.out _ _ trivial (fun hHeld => ?_)
                     clear hK K
                     refine norm_ (a' := ?_) ?_ ?_
                     rotate_left
                     ·show Act.put _ (some 46) _ = _
                      simp only [Act.put, sI, sZ, sS, i64_w, i32_w]
                      rfl
                     refine pure_ (i := 6) (N := some 47) (v := ?_) (a' := ?_) (BT 19 186879) rfl rfl (any_of HT_.out (by kernel_rfl)) (fun _ _ _ h => h) (Or.inl ⟨by rfl, ?_⟩) ?_ ?_
                     rotate_left; · intro w'; go_simp; with_reducible rfl
                     rotate_left; · simp only [Act.put, sI, sZ, sS, i64_w, i32_w]; rfl
                     refine one_ (i := 9) (N := some 50) (BT 19 187391) rfl rfl (one_of HT_.out (by kernel_rfl)) (by decide) (fun K hK => ?_)
                     refine goes_ Tryd.func57 (by kernel_rfl) rfl #[.string (t270.extract 5 9)] (by rfl) rfl rfl (by (try simp only [List.map_toArray, List.map_cons, List.map_nil]); first | done | rfl | (simp only [List.length_drop, List.length_take]; rfl) | (rw [wrap_sum2 (by assumption)]; rfl)) ?_
                     with_reducible refine (r2_Get.calls k (t270.extract 5 9) t273 _ A28.out).mono ?_
                     rintro e w70 ⟨rfl, hb⟩
                     refine ⟨_, rfl, ?_⟩
                     have n0_ := Ax.mk (bB (bT BK268.out) hb)
                     have n1_ := Ax.mk (bB (bT BK275.out) hb)
                     have n2_ := Ax.mk (bP bA hb)
                     clear BK268
                     clear BK275
                     clear HB
                     have BK268 := n0_
                     have BK275 := n1_
                     have HB := n2_
                     clear n0_ n1_ n2_
                     (try clear hb)
                     (try clear hb2)
                     (try clear hk)
                     (try clear hi)
                     refine hK.out _ _ trivial (fun hHeld => ?_)
                     clear hK K
                     refine norm_ (a' := ?_) ?_ ?_
                     rotate_left
                     ·show Act.put _ (some 50) _ = _
                      simp only [Act.put, sI, sZ, sS, i64_w, i32_w]
                      rfl
                     refine pure_ (i := 10) (N := some 51) (v := ?_) (a' := ?_) (BT 19 188415) rfl rfl (any_of HT_.out (by kernel_rfl)) (fun _ _ _ h => h) (Or.inl ⟨by rfl, ?_⟩) ?_ ?_
                     rotate_left; · intro w'; go_simp; with_reducible rfl
                     rotate_left; · simp only [Act.put, sI, sZ, sS, i64_w, i32_w]; rfl
                     refine one_ (i := 13) (N := some 54) (BT 19 196607) rfl rfl (one_of HT_.out (by kernel_rfl)) (by decide) (fun K hK => ?_)
                     refine goes_ Tryd.func57 (by kernel_rfl) rfl #[.string (t270.extract 9 17)] (by rfl) rfl rfl (by (try simp only [List.map_toArray, List.map_cons, List.map_nil]); first | done | rfl | (simp only [List.length_drop, List.length_take]; rfl) | (rw [wrap_sum2 (by assumption)]; rfl)) ?_
                     with_reducible refine (r2_Get.calls k (t270.extract 9 17) t274 _ A31.out).mono ?_
                     rintro e w71 ⟨rfl, hb⟩
                     refine ⟨_, rfl, ?_⟩
                     have n0_ := Ax.mk (bB (bT BK268.out) hb)
                     have n1_ := Ax.mk (bB (bT BK275.out) hb)
                     have n2_ := Ax.mk (bP bA hb)
                     clear BK268
                     clear BK275
                     clear HB
                     have BK268 := n0_
                     have BK275 := n1_
                     have HB := n2_
                     clear n0_ n1_ n2_
                     (try clear hb)
                     (try clear hb2)
                     (try clear hk)
                     (try clear hi)
                     refine hK.out _ _ trivial (fun hHeld => ?_)
                     clear hK K
                     refine norm_ (a' := ?_) ?_ ?_
                     rotate_left
                     ·show Act.put _ (some 54) _ = _
                      simp only [Act.put, sI, sZ, sS, i64_w, i32_w]
                      rfl
                     refine pure_ (i := 16) (N := some 57) (v := ?_) (a' := ?_) (TF 18 1) rfl rfl (any_of HT_.out (by kernel_rfl)) (fun _ _ _ h => h) (Or.inl ⟨by rfl, ?_⟩) ?_ ?_
                     rotate_left; · intro w'; go_simp; with_reducible rfl
                     rotate_left; · simp only [Act.put, sI, sZ, sS, i64_w, i32_w]; rfl
                     exact norm_ (by simp only [putAll, Act.put, sI, sZ, sS]) (hCont (gb275) _ ⟨(bT BK268.out), (bT BK275.out), GW275.out, GE275.out, NB268_275.out, NB275_268.out, bA⟩)
                   rintro gb275 w72 ⟨h0_, h1_, h2_, h3_, h4_, h5_, h6_⟩
                   have n0_ : Ax (w72.heap[gb268]? = some (.cells #[.int .i64 0, .int .i64 0, .int .i64 0, .int .u64 0, .string (⟨#[]⟩ : ByteArray)] 26 (0, 0))) := ⟨h0_⟩
                   have n1_ : Ax (w72.heap[gb275]? = some (.cells #[.int .i64 0, .int .i64 0, .int .i64 0, .int .u64 0, .string (⟨#[]⟩ : ByteArray)] 26 (0, 0))) := ⟨h1_⟩
                   have n2_ : Ax (w.heap.size ≤ gb275) := ⟨h2_⟩
                   have n3_ : Ax (w.heap.size ≤ gb275) := ⟨h3_⟩
                   have n4_ : Ax (gb268 ≠ gb275) := ⟨h4_⟩
                   have n5_ : Ax (gb275 ≠ gb268) := ⟨h5_⟩
                   have n6_ : Ax (Below w.heap.size w w72) := ⟨h6_⟩
                   clear BK268
                   clear HB
                   clear h0_ h1_ h2_ h3_ h4_ h5_ h6_
                   have BK268 := n0_
                   have BK275 := n1_
                   have GW275 := n2_
                   have GE275 := n3_
                   have NB268_275 := n4_
                   have NB275_268 := n5_
                   have HB := n6_
                   clear n0_ n1_ n2_ n3_ n4_ n5_ n6_
                   have hHeld := trivial
                   refine norm_ (a' := ?_) ?_ ?_
                   rotate_left
                   ·simp only [putAll, Act.put, sI, sZ, sS]
                    rfl
                   refine one_ (i := 18) (N := none) (TF 19 0) rfl rfl (one_of HT_.out (by kernel_rfl)) (by decide) (fun K hK => ?_)
                   have hs73 : w72.cell? ⟨gb275, 0, none⟩ = some (.int .i64 0) := (bC BK275.out 0).trans rfl
                   have hfs73 := bF BK275.out 0
                   have hns73_0 := NB268_275.out
                   have hms73_0 := NB275_268.out
                   have hs74 : w72.cell? ⟨gb275, 1, none⟩ = some (.int .i64 0) := (bC BK275.out 1).trans rfl
                   have hfs74 := bF BK275.out 1
                   have hns74_0 := NB268_275.out
                   have hms74_0 := NB275_268.out
                   have hs75 : w72.cell? ⟨gb275, 2, none⟩ = some (.int .i64 0) := (bC BK275.out 2).trans rfl
                   have hfs75 := bF BK275.out 2
                   have hns75_0 := NB268_275.out
                   have hms75_0 := NB275_268.out
                   have hs76 : w72.cell? ⟨gb275, 3, none⟩ = some (.int .u64 0) := (bC BK275.out 3).trans rfl
                   have hfs76 := bF BK275.out 3
                   have hns76_0 := NB268_275.out
                   have hms76_0 := NB275_268.out
                   have hs77 : w72.cell? ⟨gb275, 4, none⟩ = some (.string (⟨#[]⟩ : ByteArray)) := (bC BK275.out 4).trans rfl
                   have hfs77 := bF BK275.out 4
                   have hns77_0 := NB268_275.out
                   have hms77_0 := NB275_268.out
                   refine skip_ (w1 := ?_) (by rfl) rfl ?_ ?_
                   rotate_left
                   ·go_simp
                    rfl
                   refine hK.out _ _ trivial (fun hHeld => ?_)
                   clear hK K
                   refine done_ (done_of HT_.out (by kernel_rfl)) ?_
                   have hnb78 := NB275_268.out
                   have hnc78 := NB268_275.out
                   have hcz79_0 : w72.cell? ⟨gb275, 0, none⟩ = some (.int .i64 0) := (bC BK275.out 0).trans rfl
                   have hcz79_1 : w72.cell? ⟨gb275, 1, none⟩ = some (.int .i64 0) := (bC BK275.out 1).trans rfl
                   have hcz79_2 : w72.cell? ⟨gb275, 2, none⟩ = some (.int .i64 0) := (bC BK275.out 2).trans rfl
                   have hcz79_3 : w72.cell? ⟨gb275, 3, none⟩ = some (.int .u64 0) := (bC BK275.out 3).trans rfl
                   have hcz79_4 : w72.cell? ⟨gb275, 4, none⟩ = some (.string (⟨#[]⟩ : ByteArray)) := (bC BK275.out 4).trans rfl
                   have hfz79_0 := bF BK275.out 0
                   have hfz79_1 := bF BK275.out 1
                   have hfz79_2 := bF BK275.out 2
                   have hfz79_3 := bF BK275.out 3
                   have hfz79_4 := bF BK275.out 4
                   try go_wp2_with (first | ((with_reducible refine gate_callee (f := 20) rfl ?_); refine goesL_ (some 60) rfl rfl Tryd.func20 (by kernel_rfl) rfl #[.agg #[.int .i64 (wrap64 (bt t270 0)), .int .i64 (wrap64 (t272)), .int .i64 (wrap64 (t273)), .int .u64 t274, .string (t270.extract 17 t270.size)]] rfl (by (try simp only [List.map_toArray, List.map_cons, List.map_nil]); first | done | rfl | (simp only [List.length_drop, List.length_take]; rfl) | (rw [wrap_sum2 (by assumption)]; rfl)) ?_; (with_reducible refine (r12_Put.calls k (wrap64 (bt t270 0)) (wrap64 (t272)) (wrap64 (t273)) t274 (t270.extract 17 t270.size) t276 t277 _ A33.out).mono ?_); rintro e w80 ⟨rfl, hb⟩; refine ⟨_, rfl, ?_⟩; have n0_ := Ax.mk (bB (g := gb268) (o := .cells #[.int .i64 0, .int .i64 0, .int .i64 0, .int .u64 0, .string (⟨#[]⟩ : ByteArray)] 26 (0, 0)) (by refine bT ?_; refine bR ?_ NB268_275.out _; refine bT ?_; refine bR ?_ NB268_275.out _; refine bT ?_; refine bR ?_ NB268_275.out _; refine bT ?_; refine bR ?_ NB268_275.out _; refine bT ?_; refine bR ?_ NB268_275.out _; exact bT BK268.out) hb); have n1_ := Ax.mk (bB (g := gb275) (o := .cells #[.int .i64 (wrap64 (bt t270 0)), .int .i64 (wrap64 (t272)), .int .i64 (wrap64 (t273)), .int .u64 t274, .string (t270.extract 17 t270.size)] 26 (0, 0)) (by refine bT ?_; refine bU (cs := #[.int .i64 (wrap64 (bt t270 0)), .int .i64 (wrap64 (t272)), .int .i64 (wrap64 (t273)), .int .u64 t274, .string (⟨#[]⟩ : ByteArray)]) ?_ 4 _ rfl; refine bT ?_; refine bU (cs := #[.int .i64 (wrap64 (bt t270 0)), .int .i64 (wrap64 (t272)), .int .i64 (wrap64 (t273)), .int .u64 0, .string (⟨#[]⟩ : ByteArray)]) ?_ 3 _ rfl; refine bT ?_; refine bU (cs := #[.int .i64 (wrap64 (bt t270 0)), .int .i64 (wrap64 (t272)), .int .i64 0, .int .u64 0, .string (⟨#[]⟩ : ByteArray)]) ?_ 2 _ rfl; refine bT ?_; refine bU (cs := #[.int .i64 (wrap64 (bt t270 0)), .int .i64 0, .int .i64 0, .int .u64 0, .string (⟨#[]⟩ : ByteArray)]) ?_ 1 _ rfl; refine bT ?_; refine bU (cs := #[.int .i64 0, .int .i64 0, .int .i64 0, .int .u64 0, .string (⟨#[]⟩ : ByteArray)]) ?_ 0 _ rfl; exact bT BK275.out) hb); have n2_ := Ax.mk (bP bA hb); clear BK268; clear BK275; clear HB; have BK268 := n0_; have BK275 := n1_; have HB := n2_; clear n0_ n1_ n2_; (try clear hb); (try clear hb2); (try clear hk); (try clear hi); have hcz81_0 : w80.cell? ⟨gb268, 0, none⟩ = some (.int .i64 0) := (bC BK268.out 0).trans rfl; have hcz81_1 : w80.cell? ⟨gb268, 1, none⟩ = some (.int .i64 0) := (bC BK268.out 1).trans rfl; have hcz81_2 : w80.cell? ⟨gb268, 2, none⟩ = some (.int .i64 0) := (bC BK268.out 2).trans rfl; have hcz81_3 : w80.cell? ⟨gb268, 3, none⟩ = some (.int .u64 0) := (bC BK268.out 3).trans rfl; have hcz81_4 : w80.cell? ⟨gb268, 4, none⟩ = some (.string (⟨#[]⟩ : ByteArray)) := (bC BK268.out 4).trans rfl; have hfz81_0 := bF BK268.out 0; have hfz81_1 := bF BK268.out 1; have hfz81_2 := bF BK268.out 2; have hfz81_3 := bF BK268.out 3; have hfz81_4 := bF BK268.out 4))
                   refine bodyPost_ret (results_ctt rfl _ _ gb268 26 #[.int .i64 0, .int .i64 0, .int .i64 0, .int .u64 0, .string (⟨#[]⟩ : ByteArray)] (0, 0) _ rfl (by refine bT ?_; refine bU (cs := #[.int .i64 0, .int .i64 0, .int .i64 0, .int .u64 0, .string (⟨#[]⟩ : ByteArray)]) ?_ 4 _ rfl; refine bT ?_; refine bU (cs := #[.int .i64 0, .int .i64 0, .int .i64 0, .int .u64 0, .string (⟨#[]⟩ : ByteArray)]) ?_ 3 _ rfl; refine bT ?_; refine bU (cs := #[.int .i64 0, .int .i64 0, .int .i64 0, .int .u64 0, .string (⟨#[]⟩ : ByteArray)]) ?_ 2 _ rfl; refine bT ?_; refine bU (cs := #[.int .i64 0, .int .i64 0, .int .i64 0, .int .u64 0, .string (⟨#[]⟩ : ByteArray)]) ?_ 1 _ rfl; refine bT ?_; refine bU (cs := #[.int .i64 0, .int .i64 0, .int .i64 0, .int .u64 0, .string (⟨#[]⟩ : ByteArray)]) ?_ 0 _ rfl; exact bT BK268.out) Tryd.underlying26 rfl (by kernel_rfl)) rfl ?_
                   exact ⟨by first | rfl | (simp [errW_none, errW_some] <;> rfl) | (simp only [← hji35]; first | rfl | (simp [errW_none, errW_some] <;> rfl)) | (simp [*, errW_none, errW_some] <;> rfl), bA⟩
                 ·rw [if_neg c36] at H
                  exact absurd H (by simp)
                ·rw [if_neg c34] at H
                 have c34b0 : (t277 == 0) = false := beq_eq_false_iff_ne.mpr c34
                 have c34b1 : (t277 != 0) = true := bne_iff_ne.mpr c34
                 simp only [Option.some.injEq, Prod.mk.injEq] at H
                 obtain ⟨rfl, rfl, rfl, rfl, rfl, rfl, rfl⟩ := H
                 go_enter Tryd.func28, Tryd.ntmps28
                 try go_wp2_with (first | ((with_reducible refine gate_dst (N := 2) rfl ?_); refine box_event ?hg (N := 2) ?hd (cs := #[.int .i64 0, .int .i64 0, .int .i64 0, .int .u64 0, .string (⟨#[]⟩ : ByteArray)]) (t := 26) ?hr ?_; (case hd => rfl); (case hg => rfl); (case hr => first | (go_simp; done) | (go_simp; rfl)); intro gb268 hg w82 hbox hb; have n0_ := Ax.mk (bP bA hb); have n1_ := Ax.mk (hbox); have n2_ := Ax.mk ((ge_new hg : w.heap.size ≤ gb268)); have n3_ := n2_; clear HB; have HB := n0_; have BK268 := n1_; have GW268 := n2_; have GE268 := n3_; clear n0_ n1_ n2_ n3_; clear hb hbox hg) | ((with_reducible refine gate_callee (f := 57) rfl ?_); refine goesL_ (some 17) rfl rfl Tryd.func57 (by kernel_rfl) rfl #[.string (a0.extract 0 2)] rfl (by (try simp only [List.map_toArray, List.map_cons, List.map_nil]); first | done | rfl | (simp only [List.length_drop, List.length_take]; rfl) | (rw [wrap_sum2 (by assumption)]; rfl)) ?_; (with_reducible refine (r2_Get.calls k (a0.extract 0 2) t269 _ A7.out).mono ?_); rintro e w83 ⟨rfl, hb⟩; refine ⟨_, rfl, ?_⟩; have n0_ := Ax.mk (bB (bT BK268.out) hb); have n1_ := Ax.mk (bP bA hb); clear BK268; clear HB; have BK268 := n0_; have HB := n1_; clear n0_ n1_; (try clear hb); (try clear hb2); (try clear hk); (try clear hi)) | ((with_reducible refine gate_callee (f := 58) rfl ?_); refine goesL_ (some 30) rfl rfl Tryd.func58 (by kernel_rfl) rfl #[.string (a0.extract 2 ((wrap64 (2 + (wrap64 (t269)))) : Int).toNat)] rfl (by (try simp only [List.map_toArray, List.map_cons, List.map_nil]); first | done | rfl | (simp only [List.length_drop, List.length_take]; rfl) | (rw [wrap_sum2 (by assumption)]; rfl)) ?_; (with_reducible refine (r3_Take.calls k (a0.extract 2 ((wrap64 (2 + (wrap64 (t269)))) : Int).toNat) t270 t271 _ A14.out).mono ?_); rintro e w84 ⟨rfl, hb⟩; refine ⟨_, rfl, ?_⟩; have n0_ := Ax.mk (bB (bT BK268.out) hb); have n1_ := Ax.mk (bP bA hb); clear BK268; clear HB; have BK268 := n0_; have HB := n1_; clear n0_ n1_; (try clear hb); (try clear hb2); (try clear hk); (try clear hi)))
                 have n0_ := Ax.mk (blk_drew BK268.out)
                 have n1_ := Ax.mk (below_drew1 HB.out)
                 clear BK268
                 clear HB
                 have BK268 := n0_
                 have HB := n1_
                 clear n0_ n1_
                 have p22 : 0 ≤ (0 : Int) := (by omega)
                 have q22 : 0 < t270.size := (by have : (0 : Int) < (t270.size : Int) := ofD; omega)
                 have hx22 : ∀ h : 0 < t270.size, ((t270[0]'h).toNat : Int) = bt t270 0 := bt_at t270 0
                 clear p22
                 have qi22 : (0 < (t270.size : Int)) = True := eq_true (ofD)
                 replace q22 := eq_true q22
                 refine start_ (n := 19) (S := fun w' => True) (ds := []) (TF 0 19) (by kernel_rfl) rfl rfl trivial (fun hHeld => ?_); refine with_tabW r12_Take.tab11 r12_Take.bits11 (fun HT_ HW_ => ?_)
                 generalize w84.drew = w85 at BK268 HB hHeld ⊢
                 refine pure_ (i := 0) (N := some 41) (v := ?_) (a' := ?_) (TF 1 18) rfl rfl (any_of HT_.out (by kernel_rfl)) (fun _ _ _ h => h) (Or.inl ⟨by rfl, ?_⟩) ?_ ?_
                 rotate_left; · intro w'; go_simp; with_reducible rfl
                 rotate_left; · simp only [Act.put, sI, sZ, sS, i64_w, i32_w]; rfl
                 refine pure_ (i := 3) (N := some 44) (v := ?_) (a' := ?_) (BT 19 9) rfl rfl (any_of HT_.out (by kernel_rfl)) (fun _ _ _ h => h) (Or.inl ⟨by rfl, ?_⟩) ?_ ?_
                 rotate_left; · intro w'; go_simp; with_reducible rfl
                 rotate_left; · simp only [Act.put, sI, sZ, sS, i64_w, i32_w]; rfl
                 refine pure_ (i := 4) (N := some 45) (v := ?_) (a' := ?_) (BT 19 25) rfl rfl (any_of HT_.out (by kernel_rfl)) (fun _ _ _ h => h) (Or.inl ⟨by rfl, ?_⟩) ?_ ?_
                 rotate_left; · intro w'; go_simp; with_reducible rfl
                 rotate_left; · simp only [Act.put, sI, sZ, sS, i64_w, i32_w]; rfl
                 refine pure_ (i := 7) (N := some 48) (v := ?_) (a' := ?_) (BT 19 153) rfl rfl (any_of HT_.out (by kernel_rfl)) (fun _ _ _ h => h) (Or.inl ⟨by rfl, ?_⟩) ?_ ?_
                 rotate_left; · intro w'; go_simp; with_reducible rfl
                 rotate_left; · simp only [Act.put, sI, sZ, sS, i64_w, i32_w]; rfl
                 refine pure_ (i := 8) (N := some 49) (v := ?_) (a' := ?_) (BT 19 409) rfl rfl (any_of HT_.out (by kernel_rfl)) (fun _ _ _ h => h) (Or.inl ⟨by rfl, ?_⟩) ?_ ?_
                 rotate_left; · intro w'; go_simp; with_reducible rfl
                 rotate_left; · simp only [Act.put, sI, sZ, sS, i64_w, i32_w]; rfl
                 refine pure_ (i := 11) (N := some 52) (v := ?_) (a' := ?_) (BT 19 2457) rfl rfl (any_of HT_.out (by kernel_rfl)) (fun _ _ _ h => h) (Or.inl ⟨by rfl, ?_⟩) ?_ ?_
                 rotate_left; · intro w'; go_simp; with_reducible rfl
                 rotate_left; · simp only [Act.put, sI, sZ, sS, i64_w, i32_w]; rfl
                 refine pure_ (i := 12) (N := some 53) (v := ?_) (a' := ?_) (BT 19 6553) rfl rfl (any_of HT_.out (by kernel_rfl)) (fun _ _ _ h => h) (Or.inl ⟨by rfl, ?_⟩) ?_ ?_
                 rotate_left; · intro w'; go_simp; with_reducible rfl
                 rotate_left; · simp only [Act.put, sI, sZ, sS, i64_w, i32_w]; rfl
                 refine pure_ (i := 14) (N := some 55) (v := ?_) (a' := ?_) (BT 19 22937) rfl rfl (any_of HT_.out (by kernel_rfl)) (fun _ _ _ h => h) (Or.inl ⟨by rfl, ?_⟩) ?_ ?_
                 rotate_left; · intro w'; go_simp; with_reducible rfl
                 rotate_left; · simp only [Act.put, sI, sZ, sS, i64_w, i32_w]; rfl
                 refine pure_ (i := 15) (N := some 56) (v := ?_) (a' := ?_) (BT 19 55705) rfl rfl (any_of HT_.out (by kernel_rfl)) (fun _ _ _ h => h) (Or.inl ⟨by rfl, ?_⟩) ?_ ?_
                 rotate_left; · intro w'; go_simp; with_reducible rfl
                 rotate_left; · simp only [Act.put, sI, sZ, sS, i64_w, i32_w]; rfl
                 refine take_ (i := 1) (N := some 42) (v := ?_) (a' := ?_) (BT 19 55707) rfl rfl (take_ofW HT_.out HW_.out (by kernel_rfl)) (fun _ _ _ h => h) (Or.inl ⟨by rfl, ?_⟩) hHeld ?_ ?_
                 rotate_left
                 ·intro w' _
                  go_simp
                  with_reducible rfl
                 rotate_left
                 ·simp only [Act.put, sI, sZ, sS, i64_w, i32_w]
                  rfl
                 refine pure_ (i := 2) (N := some 43) (v := ?_) (a' := ?_) (BT 19 55711) rfl rfl (any_of HT_.out (by kernel_rfl)) (fun _ _ _ h => h) (Or.inl ⟨by rfl, ?_⟩) ?_ ?_
                 rotate_left; · intro w'; go_simp; with_reducible rfl
                 rotate_left; · simp only [Act.put, sI, sZ, sS, i64_w, i32_w]; rfl
                 refine join_ (σ := Nat) 1 (TF 18 1) (fun s_ => [(46, .int .u64 t272), (50, .int .u64 t273), (54, .int .u64 t274), (8, .pointer (some ⟨s_, 0, none⟩)), (47, .int .i64 (wrap64 (t272))), (51, .int .i64 (wrap64 (t273))), (57, .agg #[.int .i64 (wrap64 (bt t270 0)), .int .i64 (wrap64 (t272)), .int .i64 (wrap64 (t273)), .int .u64 t274, .string (t270.extract 17 t270.size)])]) (fun s_ w' => (w'.heap[gb268]? = some (.cells #[.int .i64 0, .int .i64 0, .int .i64 0, .int .u64 0, .string (⟨#[]⟩ : ByteArray)] 26 (0, 0))) ∧ (w'.heap[s_]? = some (.cells #[.int .i64 0, .int .i64 0, .int .i64 0, .int .u64 0, .string (⟨#[]⟩ : ByteArray)] 26 (0, 0))) ∧ (w.heap.size ≤ s_) ∧ (w.heap.size ≤ s_) ∧ (gb268 ≠ s_) ∧ (s_ ≠ gb268) ∧ (Below w.heap.size w w')) ?_ ?_
                 rotate_left
                 ·intro hCont
                  refine two_ (i := 5) (j := 17) (Ni := some 46) (Nj := some 8) (BT 19 55743) (BT 19 186783) rfl rfl rfl rfl (two_of HT_.out (by kernel_rfl)) (by decide) (by decide) (fun K hK => ?_) (fun K hK => ?_)
                  ·skip
                   refine goes_ Tryd.func57 (by kernel_rfl) rfl #[.string (t270.extract 1 5)] (by rfl) rfl rfl (by (try simp only [List.map_toArray, List.map_cons, List.map_nil]); first | done | rfl | (simp only [List.length_drop, List.length_take]; rfl) | (rw [wrap_sum2 (by assumption)]; rfl)) ?_
                   with_reducible refine (r2_Get.calls k (t270.extract 1 5) t272 _ A25.out).mono ?_
                   rintro e w86 ⟨rfl, hb⟩
                   refine ⟨_, rfl, ?_⟩
                   have n0_ := Ax.mk (bB (bT BK268.out) hb)
                   have n1_ := Ax.mk (bP bA hb)
                   clear BK268
                   clear HB
                   have BK268 := n0_
                   have HB := n1_
                   clear n0_ n1_
                   (try clear hb)
                   (try clear hb2)
                   (try clear hk)
                   (try clear hi)
                   refine hK.out _ _ trivial (fun hHeld => ?_)
                   clear hK K
                   refine norm_ (a' := ?_) ?_ ?_
                   rotate_left
                   ·show Act.put _ (some 46) _ = _
                    simp only [Act.put, sI, sZ, sS, i64_w, i32_w]
                    rfl
                   refine pure_ (i := 6) (N := some 47) (v := ?_) (a' := ?_) (BT 19 55807) rfl rfl (any_of HT_.out (by kernel_rfl)) (fun _ _ _ h => h) (Or.inl ⟨by rfl, ?_⟩) ?_ ?_
                   rotate_left; · intro w'; go_simp; with_reducible rfl
                   rotate_left; · simp only [Act.put, sI, sZ, sS, i64_w, i32_w]; rfl
                   refine two_ (i := 9) (j := 17) (Ni := some 50) (Nj := some 8) (BT 19 56319) (BT 19 186879) rfl rfl rfl rfl (two_of HT_.out (by kernel_rfl)) (by decide) (by decide) (fun K hK => ?_) (fun K hK => ?_)
                   ·skip
                    refine goes_ Tryd.func57 (by kernel_rfl) rfl #[.string (t270.extract 5 9)] (by rfl) rfl rfl (by (try simp only [List.map_toArray, List.map_cons, List.map_nil]); first | done | rfl | (simp only [List.length_drop, List.length_take]; rfl) | (rw [wrap_sum2 (by assumption)]; rfl)) ?_
                    with_reducible refine (r2_Get.calls k (t270.extract 5 9) t273 _ A28.out).mono ?_
                    rintro e w87 ⟨rfl, hb⟩
                    refine ⟨_, rfl, ?_⟩
                    have n0_ := Ax.mk (bB (bT BK268.out) hb)
                    have n1_ := Ax.mk (bP bA hb)
                    clear BK268
                    clear HB
                    have BK268 := n0_
                    have HB := n1_
                    clear n0_ n1_
                    (try clear hb)
                    (try clear hb2)
                    (try clear hk)
                    (try clear hi)
                    refine hK.out _ _ trivial (fun hHeld => ?_)
                    clear hK K
                    refine norm_ (a' := ?_) ?_ ?_
                    rotate_left
                    ·show Act.put _ (some 50) _ = _
                     simp only [Act.put, sI, sZ, sS, i64_w, i32_w]
                     rfl
                    refine pure_ (i := 10) (N := some 51) (v := ?_) (a' := ?_) (BT 19 57343) rfl rfl (any_of HT_.out (by kernel_rfl)) (fun _ _ _ h => h) (Or.inl ⟨by rfl, ?_⟩) ?_ ?_
                    rotate_left; · intro w'; go_simp; with_reducible rfl
                    rotate_left; · simp only [Act.put, sI, sZ, sS, i64_w, i32_w]; rfl
                    refine two_ (i := 13) (j := 17) (Ni := some 54) (Nj := some 8) (TF 16 3) (BT 19 188415) rfl rfl rfl rfl (two_of HT_.out (by kernel_rfl)) (by decide) (by decide) (fun K hK => ?_) (fun K hK => ?_)
                    ·skip
                     refine goes_ Tryd.func57 (by kernel_rfl) rfl #[.string (t270.extract 9 17)] (by rfl) rfl rfl (by (try simp only [List.map_toArray, List.map_cons, List.map_nil]); first | done | rfl | (simp only [List.length_drop, List.length_take]; rfl) | (rw [wrap_sum2 (by assumption)]; rfl)) ?_
                     with_reducible refine (r2_Get.calls k (t270.extract 9 17) t274 _ A31.out).mono ?_
                     rintro e w88 ⟨rfl, hb⟩
                     refine ⟨_, rfl, ?_⟩
                     have n0_ := Ax.mk (bB (bT BK268.out) hb)
                     have n1_ := Ax.mk (bP bA hb)
                     clear BK268
                     clear HB
                     have BK268 := n0_
                     have HB := n1_
                     clear n0_ n1_
                     (try clear hb)
                     (try clear hb2)
                     (try clear hk)
                     (try clear hi)
                     refine hK.out _ _ trivial (fun hHeld => ?_)
                     clear hK K
                     refine norm_ (a' := ?_) ?_ ?_
                     rotate_left
                     ·show Act.put _ (some 54) _ = _
                      simp only [Act.put, sI, sZ, sS, i64_w, i32_w]
                      rfl
                     refine pure_ (i := 16) (N := some 57) (v := ?_) (a' := ?_) (TF 17 2) rfl rfl (any_of HT_.out (by kernel_rfl)) (fun _ _ _ h => h) (Or.inl ⟨by rfl, ?_⟩) ?_ ?_
                     rotate_left; · intro w'; go_simp; with_reducible rfl
                     rotate_left; · simp only [Act.put, sI, sZ, sS, i64_w, i32_w]; rfl
                     refine one_ (i := 17) (N := some 8) (TF 18 1) rfl rfl (one_of HT_.out (by kernel_rfl)) (by decide) (fun K hK => ?_)
                     refine box_step ?hg (N := 8) ?hd (cs := #[.int .i64 0, .int .i64 0, .int .i64 0, .int .u64 0, .string (⟨#[]⟩ : ByteArray)]) (t := 26) ?hr ?_; (case hd => rfl); (case hg => rfl); (case hr => first | (go_simp; done) | (go_simp; rfl))
                     intro gb275 hg w89 hbox hb
                     have n0_ := Ax.mk (bB (bT BK268.out) hb)
                     have n1_ := Ax.mk (bP bA hb)
                     have n2_ := Ax.mk (hbox)
                     have n3_ := Ax.mk ((ge_new hg : w.heap.size ≤ gb275))
                     have n4_ := Ax.mk ((ge_new hg : w.heap.size ≤ gb275))
                     have n5_ := Ax.mk ((ne_lt hg BK268.out : gb268 ≠ gb275))
                     have n6_ := Ax.mk ((ne_gt hg BK268.out : gb275 ≠ gb268))
                     clear BK268
                     clear HB
                     have BK268 := n0_
                     have HB := n1_
                     have BK275 := n2_
                     have GW275 := n3_
                     have GE275 := n4_
                     have NB268_275 := n5_
                     have NB275_268 := n6_
                     clear n0_ n1_ n2_ n3_ n4_ n5_ n6_
                     clear hb hbox hg
                     refine hK.out _ _ trivial (fun hHeld => ?_)
                     clear hK K
                     refine norm_ (a' := ?_) ?_ ?_
                     rotate_left
                     ·show Act.put _ (some 8) _ = _
                      simp only [Act.put, sI, sZ, sS, i64_w, i32_w]
                      rfl
                     exact norm_ (by simp only [putAll, Act.put, sI, sZ, sS]) (hCont (gb275) _ ⟨(bT BK268.out), (bT BK275.out), GW275.out, GE275.out, NB268_275.out, NB275_268.out, bA⟩)
                    ·skip
                     refine box_step ?hg (N := 8) ?hd (cs := #[.int .i64 0, .int .i64 0, .int .i64 0, .int .u64 0, .string (⟨#[]⟩ : ByteArray)]) (t := 26) ?hr ?_; (case hd => rfl); (case hg => rfl); (case hr => first | (go_simp; done) | (go_simp; rfl))
                     intro gb275 hg w88 hbox hb
                     have n0_ := Ax.mk (bB (bT BK268.out) hb)
                     have n1_ := Ax.mk (bP bA hb)
                     have n2_ := Ax.mk (hbox)
                     have n3_ := Ax.mk ((ge_new hg : w.heap.size ≤ gb275))
                     have n4_ := Ax.mk ((ge_new hg : w.heap.size ≤ gb275))
                     have n5_ := Ax.mk ((ne_lt hg BK268.out : gb268 ≠ gb275))
                     have n6_ := Ax.mk ((ne_gt hg BK268.out : gb275 ≠ gb268))
                     clear BK268
                     clear HB
                     have BK268 := n0_
                     have HB := n1_
                     have BK275 := n2_
                     have GW275 := n3_
                     have GE275 := n4_
                     have NB268_275 := n5_
                     have NB275_268 := n6_
                     clear n0_ n1_ n2_ n3_ n4_ n5_ n6_
                     clear hb hbox hg
                     refine hK.out _ _ trivial (fun hHeld => ?_)
                     clear hK K
                     refine norm_ (a' := ?_) ?_ ?_
                     rotate_left
                     ·show Act.put _ (some 8) _ = _
                      simp only [Act.put, sI, sZ, sS, i64_w, i32_w]
                      rfl
                     refine one_ (i := 13) (N := some 54) (BT 19 196607) rfl rfl (one_of HT_.out (by kernel_rfl)) (by decide) (fun K hK => ?_)
                     refine goes_ Tryd.func57 (by kernel_rfl) rfl #[.string (t270.extract 9 17)] (by rfl) rfl rfl (by (try simp only [List.map_toArray, List.map_cons, List.map_nil]); first | done | rfl | (simp only [List.length_drop, List.length_take]; rfl) | (rw [wrap_sum2 (by assumption)]; rfl)) ?_
                     with_reducible refine (r2_Get.calls k (t270.extract 9 17) t274 _ A31.out).mono ?_
                     rintro e w89 ⟨rfl, hb⟩
                     refine ⟨_, rfl, ?_⟩
                     have n0_ := Ax.mk (bB (bT BK268.out) hb)
                     have n1_ := Ax.mk (bB (bT BK275.out) hb)
                     have n2_ := Ax.mk (bP bA hb)
                     clear BK268
                     clear BK275
                     clear HB
                     have BK268 := n0_
                     have BK275 := n1_
                     have HB := n2_
                     clear n0_ n1_ n2_
                     (try clear hb)
                     (try clear hb2)
                     (try clear hk)
                     (try clear hi)
                     refine hK.out _ _ trivial (fun hHeld => ?_)
                     clear hK K
                     refine norm_ (a' := ?_) ?_ ?_
                     rotate_left
                     ·show Act.put _ (some 54) _ = _
                      simp only [Act.put, sI, sZ, sS, i64_w, i32_w]
                      rfl
                     refine pure_ (i := 16) (N := some 57) (v := ?_) (a' := ?_) (TF 18 1) rfl rfl (any_of HT_.out (by kernel_rfl)) (fun _ _ _ h => h) (Or.inl ⟨by rfl, ?_⟩) ?_ ?_
                     rotate_left; · intro w'; go_simp; with_reducible rfl
                     rotate_left; · simp only [Act.put, sI, sZ, sS, i64_w, i32_w]; rfl
                     exact norm_ (by simp only [putAll, Act.put, sI, sZ, sS]) (hCont (gb275) _ ⟨(bT BK268.out), (bT BK275.out), GW275.out, GE275.out, NB268_275.out, NB275_268.out, bA⟩)
                   ·skip
                    refine box_step ?hg (N := 8) ?hd (cs := #[.int .i64 0, .int .i64 0, .int .i64 0, .int .u64 0, .string (⟨#[]⟩ : ByteArray)]) (t := 26) ?hr ?_; (case hd => rfl); (case hg => rfl); (case hr => first | (go_simp; done) | (go_simp; rfl))
                    intro gb275 hg w87 hbox hb
                    have n0_ := Ax.mk (bB (bT BK268.out) hb)
                    have n1_ := Ax.mk (bP bA hb)
                    have n2_ := Ax.mk (hbox)
                    have n3_ := Ax.mk ((ge_new hg : w.heap.size ≤ gb275))
                    have n4_ := Ax.mk ((ge_new hg : w.heap.size ≤ gb275))
                    have n5_ := Ax.mk ((ne_lt hg BK268.out : gb268 ≠ gb275))
                    have n6_ := Ax.mk ((ne_gt hg BK268.out : gb275 ≠ gb268))
                    clear BK268
                    clear HB
                    have BK268 := n0_
                    have HB := n1_
                    have BK275 := n2_
                    have GW275 := n3_
                    have GE275 := n4_
                    have NB268_275 := n5_
                    have NB275_268 := n6_
                    clear n0_ n1_ n2_ n3_ n4_ n5_ n6_
                    clear hb hbox hg
                    refine hK.out _ _ trivial (fun hHeld => ?_)
                    clear hK K
                    refine norm_ (a' := ?_) ?_ ?_
                    rotate_left
                    ·show Act.put _ (some 8) _ = _
                     simp only [Act.put, sI, sZ, sS, i64_w, i32_w]
                     rfl
                    refine one_ (i := 9) (N := some 50) (BT 19 187391) rfl rfl (one_of HT_.out (by kernel_rfl)) (by decide) (fun K hK => ?_)
                    refine goes_ Tryd.func57 (by kernel_rfl) rfl #[.string (t270.extract 5 9)] (by rfl) rfl rfl (by (try simp only [List.map_toArray, List.map_cons, List.map_nil]); first | done | rfl | (simp only [List.length_drop, List.length_take]; rfl) | (rw [wrap_sum2 (by assumption)]; rfl)) ?_
                    with_reducible refine (r2_Get.calls k (t270.extract 5 9) t273 _ A28.out).mono ?_
                    rintro e w88 ⟨rfl, hb⟩
                    refine ⟨_, rfl, ?_⟩
                    have n0_ := Ax.mk (bB (bT BK268.out) hb)
                    have n1_ := Ax.mk (bB (bT BK275.out) hb)
                    have n2_ := Ax.mk (bP bA hb)
                    clear BK268
                    clear BK275
                    clear HB
                    have BK268 := n0_
                    have BK275 := n1_
                    have HB := n2_
                    clear n0_ n1_ n2_
                    (try clear hb)
                    (try clear hb2)
                    (try clear hk)
                    (try clear hi)
                    refine hK.out _ _ trivial (fun hHeld => ?_)
                    clear hK K
                    refine norm_ (a' := ?_) ?_ ?_
                    rotate_left
                    ·show Act.put _ (some 50) _ = _
                     simp only [Act.put, sI, sZ, sS, i64_w, i32_w]
                     rfl
                    refine pure_ (i := 10) (N := some 51) (v := ?_) (a' := ?_) (BT 19 188415) rfl rfl (any_of HT_.out (by kernel_rfl)) (fun _ _ _ h => h) (Or.inl ⟨by rfl, ?_⟩) ?_ ?_
                    rotate_left; · intro w'; go_simp; with_reducible rfl
                    rotate_left; · simp only [Act.put, sI, sZ, sS, i64_w, i32_w]; rfl
                    refine one_ (i := 13) (N := some 54) (BT 19 196607) rfl rfl (one_of HT_.out (by kernel_rfl)) (by decide) (fun K hK => ?_)
                    refine goes_ Tryd.func57 (by kernel_rfl) rfl #[.string (t270.extract 9 17)] (by rfl) rfl rfl (by (try simp only [List.map_toArray, List.map_cons, List.map_nil]); first | done | rfl | (simp only [List.length_drop, List.length_take]; rfl) | (rw [wrap_sum2 (by assumption)]; rfl)) ?_
                    with_reducible refine (r2_Get.calls k (t270.extract 9 17) t274 _ A31.out).mono ?_
                    rintro e w89 ⟨rfl, hb⟩
                    refine ⟨_, rfl, ?_⟩
                    have n0_ := Ax.mk (bB (bT BK268.out) hb)
                    have n1_ := Ax.mk (bB (bT BK275.out) hb)
                    have n2_ := Ax.mk (bP bA hb)
                    clear BK268
                    clear BK275
                    clear HB
                    have BK268 := n0_
                    have BK275 := n1_
                    have HB := n2_
                    clear n0_ n1_ n2_
                    (try clear hb)
                    (try clear hb2)
                    (try clear hk)
                    (try clear hi)
                    refine hK.out _ _ trivial (fun hHeld => ?_)
                    clear hK K
                    refine norm_ (a' := ?_) ?_ ?_
                    rotate_left
                    ·show Act.put _ (some 54) _ = _
                     simp only [Act.put, sI, sZ, sS, i64_w, i32_w]
                     rfl
                    refine pure_ (i := 16) (N := some 57) (v := ?_) (a' := ?_) (TF 18 1) rfl rfl (any_of HT_.out (by kernel_rfl)) (fun _ _ _ h => h) (Or.inl ⟨by rfl, ?_⟩) ?_ ?_
                    rotate_left; · intro w'; go_simp; with_reducible rfl
                    rotate_left; · simp only [Act.put, sI, sZ, sS, i64_w, i32_w]; rfl
                    exact norm_ (by simp only [putAll, Act.put, sI, sZ, sS]) (hCont (gb275) _ ⟨(bT BK268.out), (bT BK275.out), GW275.out, GE275.out, NB268_275.out, NB275_268.out, bA⟩)
                  ·skip
                   refine box_step ?hg (N := 8) ?hd (cs := #[.int .i64 0, .int .i64 0, .int .i64 0, .int .u64 0, .string (⟨#[]⟩ : ByteArray)]) (t := 26) ?hr ?_; (case hd => rfl); (case hg => rfl); (case hr => first | (go_simp; done) | (go_simp; rfl))
                   intro gb275 hg w86 hbox hb
                   have n0_ := Ax.mk (bB (bT BK268.out) hb)
                   have n1_ := Ax.mk (bP bA hb)
                   have n2_ := Ax.mk (hbox)
                   have n3_ := Ax.mk ((ge_new hg : w.heap.size ≤ gb275))
                   have n4_ := Ax.mk ((ge_new hg : w.heap.size ≤ gb275))
                   have n5_ := Ax.mk ((ne_lt hg BK268.out : gb268 ≠ gb275))
                   have n6_ := Ax.mk ((ne_gt hg BK268.out : gb275 ≠ gb268))
                   clear BK268
                   clear HB
                   have BK268 := n0_
                   have HB := n1_
                   have BK275 := n2_
                   have GW275 := n3_
                   have GE275 := n4_
                   have NB268_275 := n5_
                   have NB275_268 := n6_
                   clear n0_ n1_ n2_ n3_ n4_ n5_ n6_
                   clear hb hbox hg
                   refine hK.out _ _ trivial (fun hHeld => ?_)
                   clear hK K
                   refine norm_ (a' := ?_) ?_ ?_
                   rotate_left
                   ·show Act.put _ (some 8) _ = _
                    simp only [Act.put, sI, sZ, sS, i64_w, i32_w]
                    rfl
                   refine one_ (i := 5) (N := some 46) (BT 19 186815) rfl rfl (one_of HT_.out (by kernel_rfl)) (by decide) (fun K hK => ?_)
                   refine goes_ Tryd.func57 (by kernel_rfl) rfl #[.string (t270.extract 1 5)] (by rfl) rfl rfl (by (try simp only [List.map_toArray, List.map_cons, List.map_nil]); first | done | rfl | (simp only [List.length_drop, List.length_take]; rfl) | (rw [wrap_sum2 (by assumption)]; rfl)) ?_
                   with_reducible refine (r2_Get.calls k (t270.extract 1 5) t272 _ A25.out).mono ?_
                   rintro e w87 ⟨rfl, hb⟩
                   refine ⟨_, rfl, ?_⟩
                   have n0_ := Ax.mk (bB (bT BK268.out) hb)
                   have n1_ := Ax.mk (bB (bT BK275.out) hb)
                   have n2_ := Ax.mk (bP bA hb)
                   clear BK268
                   clear BK275
                   clear HB
                   have BK268 := n0_
                   have BK275 := n1_
                   have HB := n2_
                   clear n0_ n1_ n2_
                   (try clear hb)
                   (try clear hb2)
                   (try clear hk)
                   (try clear hi)
                   refine hK.out _ _ trivial (fun hHeld => ?_)
                   clear hK K
                   refine norm_ (a' := ?_) ?_ ?_
                   rotate_left
                   ·show Act.put _ (some 46) _ = _
                    simp only [Act.put, sI, sZ, sS, i64_w, i32_w]
                    rfl
                   refine pure_ (i := 6) (N := some 47) (v := ?_) (a' := ?_) (BT 19 186879) rfl rfl (any_of HT_.out (by kernel_rfl)) (fun _ _ _ h => h) (Or.inl ⟨by rfl, ?_⟩) ?_ ?_
                   rotate_left; · intro w'; go_simp; with_reducible rfl
                   rotate_left; · simp only [Act.put, sI, sZ, sS, i64_w, i32_w]; rfl
                   refine one_ (i := 9) (N := some 50) (BT 19 187391) rfl rfl (one_of HT_.out (by kernel_rfl)) (by decide) (fun K hK => ?_)
                   refine goes_ Tryd.func57 (by kernel_rfl) rfl #[.string (t270.extract 5 9)] (by rfl) rfl rfl (by (try simp only [List.map_toArray, List.map_cons, List.map_nil]); first | done | rfl | (simp only [List.length_drop, List.length_take]; rfl) | (rw [wrap_sum2 (by assumption)]; rfl)) ?_
                   with_reducible refine (r2_Get.calls k (t270.extract 5 9) t273 _ A28.out).mono ?_
                   rintro e w88 ⟨rfl, hb⟩
                   refine ⟨_, rfl, ?_⟩
                   have n0_ := Ax.mk (bB (bT BK268.out) hb)
                   have n1_ := Ax.mk (bB (bT BK275.out) hb)
                   have n2_ := Ax.mk (bP bA hb)
                   clear BK268
                   clear BK275
                   clear HB
                   have BK268 := n0_
                   have BK275 := n1_
                   have HB := n2_
                   clear n0_ n1_ n2_
                   (try clear hb)
                   (try clear hb2)
                   (try clear hk)
                   (try clear hi)
                   refine hK.out _ _ trivial (fun hHeld => ?_)
                   clear hK K
                   refine norm_ (a' := ?_) ?_ ?_
                   rotate_left
                   ·show Act.put _ (some 50) _ = _
                    simp only [Act.put, sI, sZ, sS, i64_w, i32_w]
                    rfl
                   refine pure_ (i := 10) (N := some 51) (v := ?_) (a' := ?_) (BT 19 188415) rfl rfl (any_of HT_.out (by kernel_rfl)) (fun _ _ _ h => h) (Or.inl ⟨by rfl, ?_⟩) ?_ ?_
                   rotate_left; · intro w'; go_simp; with_reducible rfl
                   rotate_left; · simp only [Act.put, sI, sZ, sS, i64_w, i32_w]; rfl
                   refine one_ (i := 13) (N := some 54) (BT 19 196607) rfl rfl (one_of HT_.out (by kernel_rfl)) (by decide) (fun K hK => ?_)
                   refine goes_ Tryd.func57 (by kernel_rfl) rfl #[.string (t270.extract 9 17)] (by rfl) rfl rfl (by (try simp only [List.map_toArray, List.map_cons, List.map_nil]); first | done | rfl | (simp only [List.length_drop, List.length_take]; rfl) | (rw [wrap_sum2 (by assumption)]; rfl)) ?_
                   with_reducible refine (r2_Get.calls k (t270.extract 9 17) t274 _ A31.out).mono ?_
                   rintro e w89 ⟨rfl, hb⟩
                   refine ⟨_, rfl, ?_⟩
                   have n0_ := Ax.mk (bB (bT BK268.out) hb)
                   have n1_ := Ax.mk (bB (bT BK275.out) hb)
                   have n2_ := Ax.mk (bP bA hb)
                   clear BK268
                   clear BK275
                   clear HB
                   have BK268 := n0_
                   have BK275 := n1_
                   have HB := n2_
                   clear n0_ n1_ n2_
                   (try clear hb)
                   (try clear hb2)
                   (try clear hk)
                   (try clear hi)
                   refine hK.out _ _ trivial (fun hHeld => ?_)
                   clear hK K
                   refine norm_ (a' := ?_) ?_ ?_
                   rotate_left
                   ·show Act.put _ (some 54) _ = _
                    simp only [Act.put, sI, sZ, sS, i64_w, i32_w]
                    rfl
                   refine pure_ (i := 16) (N := some 57) (v := ?_) (a' := ?_) (TF 18 1) rfl rfl (any_of HT_.out (by kernel_rfl)) (fun _ _ _ h => h) (Or.inl ⟨by rfl, ?_⟩) ?_ ?_
                   rotate_left; · intro w'; go_simp; with_reducible rfl
                   rotate_left; · simp only [Act.put, sI, sZ, sS, i64_w, i32_w]; rfl
                   exact norm_ (by simp only [putAll, Act.put, sI, sZ, sS]) (hCont (gb275) _ ⟨(bT BK268.out), (bT BK275.out), GW275.out, GE275.out, NB268_275.out, NB275_268.out, bA⟩)
                 rintro gb275 w90 ⟨h0_, h1_, h2_, h3_, h4_, h5_, h6_⟩
                 have n0_ : Ax (w90.heap[gb268]? = some (.cells #[.int .i64 0, .int .i64 0, .int .i64 0, .int .u64 0, .string (⟨#[]⟩ : ByteArray)] 26 (0, 0))) := ⟨h0_⟩
                 have n1_ : Ax (w90.heap[gb275]? = some (.cells #[.int .i64 0, .int .i64 0, .int .i64 0, .int .u64 0, .string (⟨#[]⟩ : ByteArray)] 26 (0, 0))) := ⟨h1_⟩
                 have n2_ : Ax (w.heap.size ≤ gb275) := ⟨h2_⟩
                 have n3_ : Ax (w.heap.size ≤ gb275) := ⟨h3_⟩
                 have n4_ : Ax (gb268 ≠ gb275) := ⟨h4_⟩
                 have n5_ : Ax (gb275 ≠ gb268) := ⟨h5_⟩
                 have n6_ : Ax (Below w.heap.size w w90) := ⟨h6_⟩
                 clear BK268
                 clear HB
                 clear h0_ h1_ h2_ h3_ h4_ h5_ h6_
                 have BK268 := n0_
                 have BK275 := n1_
                 have GW275 := n2_
                 have GE275 := n3_
                 have NB268_275 := n4_
                 have NB275_268 := n5_
                 have HB := n6_
                 clear n0_ n1_ n2_ n3_ n4_ n5_ n6_
                 have hHeld := trivial
                 refine norm_ (a' := ?_) ?_ ?_
                 rotate_left
                 ·simp only [putAll, Act.put, sI, sZ, sS]
                  rfl
                 refine one_ (i := 18) (N := none) (TF 19 0) rfl rfl (one_of HT_.out (by kernel_rfl)) (by decide) (fun K hK => ?_)
                 have hs91 : w90.cell? ⟨gb275, 0, none⟩ = some (.int .i64 0) := (bC BK275.out 0).trans rfl
                 have hfs91 := bF BK275.out 0
                 have hns91_0 := NB268_275.out
                 have hms91_0 := NB275_268.out
                 have hs92 : w90.cell? ⟨gb275, 1, none⟩ = some (.int .i64 0) := (bC BK275.out 1).trans rfl
                 have hfs92 := bF BK275.out 1
                 have hns92_0 := NB268_275.out
                 have hms92_0 := NB275_268.out
                 have hs93 : w90.cell? ⟨gb275, 2, none⟩ = some (.int .i64 0) := (bC BK275.out 2).trans rfl
                 have hfs93 := bF BK275.out 2
                 have hns93_0 := NB268_275.out
                 have hms93_0 := NB275_268.out
                 have hs94 : w90.cell? ⟨gb275, 3, none⟩ = some (.int .u64 0) := (bC BK275.out 3).trans rfl
                 have hfs94 := bF BK275.out 3
                 have hns94_0 := NB268_275.out
                 have hms94_0 := NB275_268.out
                 have hs95 : w90.cell? ⟨gb275, 4, none⟩ = some (.string (⟨#[]⟩ : ByteArray)) := (bC BK275.out 4).trans rfl
                 have hfs95 := bF BK275.out 4
                 have hns95_0 := NB268_275.out
                 have hms95_0 := NB275_268.out
                 refine skip_ (w1 := ?_) (by rfl) rfl ?_ ?_
                 rotate_left
                 ·go_simp
                  rfl
                 refine hK.out _ _ trivial (fun hHeld => ?_)
                 clear hK K
                 refine done_ (done_of HT_.out (by kernel_rfl)) ?_
                 have hnb96 := NB275_268.out
                 have hnc96 := NB268_275.out
                 have hcz97_0 : w90.cell? ⟨gb275, 0, none⟩ = some (.int .i64 0) := (bC BK275.out 0).trans rfl
                 have hcz97_1 : w90.cell? ⟨gb275, 1, none⟩ = some (.int .i64 0) := (bC BK275.out 1).trans rfl
                 have hcz97_2 : w90.cell? ⟨gb275, 2, none⟩ = some (.int .i64 0) := (bC BK275.out 2).trans rfl
                 have hcz97_3 : w90.cell? ⟨gb275, 3, none⟩ = some (.int .u64 0) := (bC BK275.out 3).trans rfl
                 have hcz97_4 : w90.cell? ⟨gb275, 4, none⟩ = some (.string (⟨#[]⟩ : ByteArray)) := (bC BK275.out 4).trans rfl
                 have hfz97_0 := bF BK275.out 0
                 have hfz97_1 := bF BK275.out 1
                 have hfz97_2 := bF BK275.out 2
                 have hfz97_3 := bF BK275.out 3
                 have hfz97_4 := bF BK275.out 4
                 try go_wp2_with (first | ((with_reducible refine gate_callee (f := 20) rfl ?_); refine goesL_ (some 60) rfl rfl Tryd.func20 (by kernel_rfl) rfl #[.agg #[.int .i64 (wrap64 (bt t270 0)), .int .i64 (wrap64 (t272)), .int .i64 (wrap64 (t273)), .int .u64 t274, .string (t270.extract 17 t270.size)]] rfl (by (try simp only [List.map_toArray, List.map_cons, List.map_nil]); first | done | rfl | (simp only [List.length_drop, List.length_take]; rfl) | (rw [wrap_sum2 (by assumption)]; rfl)) ?_; (with_reducible refine (r12_Put.calls k (wrap64 (bt t270 0)) (wrap64 (t272)) (wrap64 (t273)) t274 (t270.extract 17 t270.size) t276 t277 _ A33.out).mono ?_); rintro e w98 ⟨rfl, hb⟩; refine ⟨_, rfl, ?_⟩; have n0_ := Ax.mk (bB (g := gb268) (o := .cells #[.int .i64 0, .int .i64 0, .int .i64 0, .int .u64 0, .string (⟨#[]⟩ : ByteArray)] 26 (0, 0)) (by refine bT ?_; refine bR ?_ NB268_275.out _; refine bT ?_; refine bR ?_ NB268_275.out _; refine bT ?_; refine bR ?_ NB268_275.out _; refine bT ?_; refine bR ?_ NB268_275.out _; refine bT ?_; refine bR ?_ NB268_275.out _; exact bT BK268.out) hb); have n1_ := Ax.mk (bB (g := gb275) (o := .cells #[.int .i64 (wrap64 (bt t270 0)), .int .i64 (wrap64 (t272)), .int .i64 (wrap64 (t273)), .int .u64 t274, .string (t270.extract 17 t270.size)] 26 (0, 0)) (by refine bT ?_; refine bU (cs := #[.int .i64 (wrap64 (bt t270 0)), .int .i64 (wrap64 (t272)), .int .i64 (wrap64 (t273)), .int .u64 t274, .string (⟨#[]⟩ : ByteArray)]) ?_ 4 _ rfl; refine bT ?_; refine bU (cs := #[.int .i64 (wrap64 (bt t270 0)), .int .i64 (wrap64 (t272)), .int .i64 (wrap64 (t273)), .int .u64 0, .string (⟨#[]⟩ : ByteArray)]) ?_ 3 _ rfl; refine bT ?_; refine bU (cs := #[.int .i64 (wrap64 (bt t270 0)), .int .i64 (wrap64 (t272)), .int .i64 0, .int .u64 0, .string (⟨#[]⟩ : ByteArray)]) ?_ 2 _ rfl; refine bT ?_; refine bU (cs := #[.int .i64 (wrap64 (bt t270 0)), .int .i64 0, .int .i64 0, .int .u64 0, .string (⟨#[]⟩ : ByteArray)]) ?_ 1 _ rfl; refine bT ?_; refine bU (cs := #[.int .i64 0, .int .i64 0, .int .i64 0, .int .u64 0, .string (⟨#[]⟩ : ByteArray)]) ?_ 0 _ rfl; exact bT BK275.out) hb); have n2_ := Ax.mk (bP bA hb); clear BK268; clear BK275; clear HB; have BK268 := n0_; have BK275 := n1_; have HB := n2_; clear n0_ n1_ n2_; (try clear hb); (try clear hb2); (try clear hk); (try clear hi); have hcz99_0 : w98.cell? ⟨gb268, 0, none⟩ = some (.int .i64 0) := (bC BK268.out 0).trans rfl; have hcz99_1 : w98.cell? ⟨gb268, 1, none⟩ = some (.int .i64 0) := (bC BK268.out 1).trans rfl; have hcz99_2 : w98.cell? ⟨gb268, 2, none⟩ = some (.int .i64 0) := (bC BK268.out 2).trans rfl; have hcz99_3 : w98.cell? ⟨gb268, 3, none⟩ = some (.int .u64 0) := (bC BK268.out 3).trans rfl; have hcz99_4 : w98.cell? ⟨gb268, 4, none⟩ = some (.string (⟨#[]⟩ : ByteArray)) := (bC BK268.out 4).trans rfl; have hfz99_0 := bF BK268.out 0; have hfz99_1 := bF BK268.out 1; have hfz99_2 := bF BK268.out 2; have hfz99_3 := bF BK268.out 3; have hfz99_4 := bF BK268.out 4))
                 refine bodyPost_ret (results_ctt rfl _ _ gb268 26 #[.int .i64 0, .int .i64 0, .int .i64 0, .int .u64 0, .string (⟨#[]⟩ : ByteArray)] (0, 0) _ rfl (by refine bT ?_; refine bU (cs := #[.int .i64 0, .int .i64 0, .int .i64 0, .int .u64 0, .string (⟨#[]⟩ : ByteArray)]) ?_ 4 _ rfl; refine bT ?_; refine bU (cs := #[.int .i64 0, .int .i64 0, .int .i64 0, .int .u64 0, .string (⟨#[]⟩ : ByteArray)]) ?_ 3 _ rfl; refine bT ?_; refine bU (cs := #[.int .i64 0, .int .i64 0, .int .i64 0, .int .u64 0, .string (⟨#[]⟩ : ByteArray)]) ?_ 2 _ rfl; refine bT ?_; refine bU (cs := #[.int .i64 0, .int .i64 0, .int .i64 0, .int .u64 0, .string (⟨#[]⟩ : ByteArray)]) ?_ 1 _ rfl; refine bT ?_; refine bU (cs := #[.int .i64 0, .int .i64 0, .int .i64 0, .int .u64 0, .string (⟨#[]⟩ : ByteArray)]) ?_ 0 _ rfl; exact bT BK268.out) Tryd.underlying26 rfl (by kernel_rfl)) rfl ?_
                 exact ⟨by first | rfl | (simp [errW_none, errW_some] <;> rfl) | (simp [*, errW_none, errW_some] <;> rfl), bA⟩
               ·rw [if_neg c30] at H
                exact absurd H (by simp)
              ·rw [if_neg c29] at H
               exact absurd H (by simp)
             ·rw [if_neg c27] at H
              exact absurd H (by simp)
            ·rw [if_neg c26] at H
             exact absurd H (by simp)
           ·rw [if_neg c24] at H
            exact absurd H (by simp)
          ·rw [if_neg c23] at H
           exact absurd H (by simp)
         ·rw [if_neg c21] at H
          exact absurd H (by simp)
       ·rw [if_neg c15] at H
        have c15b0 : (t271 == 0) = false := beq_eq_false_iff_ne.mpr c15
        have c15b1 : (t271 != 0) = true := bne_iff_ne.mpr c15
        simp only [Option.some.injEq, Prod.mk.injEq] at H
        obtain ⟨rfl, rfl, rfl, rfl, rfl, rfl, rfl⟩ := H
        go_enter Tryd.func28, Tryd.ntmps28
        go_wp2_with (first | ((with_reducible refine gate_dst (N := 2) rfl ?_); refine box_event ?hg (N := 2) ?hd (cs := #[.int .i64 0, .int .i64 0, .int .i64 0, .int .u64 0, .string (⟨#[]⟩ : ByteArray)]) (t := 26) ?hr ?_; (case hd => rfl); (case hg => rfl); (case hr => first | (go_simp; done) | (go_simp; rfl)); intro gb268 hg w100 hbox hb; have n0_ := Ax.mk (bP bA hb); have n1_ := Ax.mk (hbox); have n2_ := Ax.mk ((ge_new hg : w.heap.size ≤ gb268)); have n3_ := n2_; clear HB; have HB := n0_; have BK268 := n1_; have GW268 := n2_; have GE268 := n3_; clear n0_ n1_ n2_ n3_; clear hb hbox hg) | ((with_reducible refine gate_callee (f := 57) rfl ?_); refine goesL_ (some 17) rfl rfl Tryd.func57 (by kernel_rfl) rfl #[.string (a0.extract 0 2)] rfl (by (try simp only [List.map_toArray, List.map_cons, List.map_nil]); first | done | rfl | (simp only [List.length_drop, List.length_take]; rfl) | (rw [wrap_sum2 (by assumption)]; rfl)) ?_; (with_reducible refine (r2_Get.calls k (a0.extract 0 2) t269 _ A7.out).mono ?_); rintro e w101 ⟨rfl, hb⟩; refine ⟨_, rfl, ?_⟩; have n0_ := Ax.mk (bB (bT BK268.out) hb); have n1_ := Ax.mk (bP bA hb); clear BK268; clear HB; have BK268 := n0_; have HB := n1_; clear n0_ n1_; (try clear hb); (try clear hb2); (try clear hk); (try clear hi)) | ((with_reducible refine gate_callee (f := 58) rfl ?_); refine goesL_ (some 30) rfl rfl Tryd.func58 (by kernel_rfl) rfl #[.string (a0.extract 2 ((wrap64 (2 + (wrap64 (t269)))) : Int).toNat)] rfl (by (try simp only [List.map_toArray, List.map_cons, List.map_nil]); first | done | rfl | (simp only [List.length_drop, List.length_take]; rfl) | (rw [wrap_sum2 (by assumption)]; rfl)) ?_; (with_reducible refine (r3_Take.calls k (a0.extract 2 ((wrap64 (2 + (wrap64 (t269)))) : Int).toNat) t270 t271 _ A14.out).mono ?_); rintro e w102 ⟨rfl, hb⟩; refine ⟨_, rfl, ?_⟩; have n0_ := Ax.mk (bB (bT BK268.out) hb); have n1_ := Ax.mk (bP bA hb); clear BK268; clear HB; have BK268 := n0_; have HB := n1_; clear n0_ n1_; (try clear hb); (try clear hb2); (try clear hk); (try clear hi); have hcz103_0 : w102.cell? ⟨gb268, 0, none⟩ = some (.int .i64 0) := (bC BK268.out 0).trans rfl; have hcz103_1 : w102.cell? ⟨gb268, 1, none⟩ = some (.int .i64 0) := (bC BK268.out 1).trans rfl; have hcz103_2 : w102.cell? ⟨gb268, 2, none⟩ = some (.int .i64 0) := (bC BK268.out 2).trans rfl; have hcz103_3 : w102.cell? ⟨gb268, 3, none⟩ = some (.int .u64 0) := (bC BK268.out 3).trans rfl; have hcz103_4 : w102.cell? ⟨gb268, 4, none⟩ = some (.string (⟨#[]⟩ : ByteArray)) := (bC BK268.out 4).trans rfl; have hfz103_0 := bF BK268.out 0; have hfz103_1 := bF BK268.out 1; have hfz103_2 := bF BK268.out 2; have hfz103_3 := bF BK268.out 3; have hfz103_4 := bF BK268.out 4))
        refine bodyPost_ret (results_ctt rfl _ _ gb268 26 #[.int .i64 0, .int .i64 0, .int .i64 0, .int .u64 0, .string (⟨#[]⟩ : ByteArray)] (0, 0) _ rfl (by refine bT ?_; refine bU (cs := #[.int .i64 0, .int .i64 0, .int .i64 0, .int .u64 0, .string (⟨#[]⟩ : ByteArray)]) ?_ 4 _ rfl; refine bT ?_; refine bU (cs := #[.int .i64 0, .int .i64 0, .int .i64 0, .int .u64 0, .string (⟨#[]⟩ : ByteArray)]) ?_ 3 _ rfl; refine bT ?_; refine bU (cs := #[.int .i64 0, .int .i64 0, .int .i64 0, .int .u64 0, .string (⟨#[]⟩ : ByteArray)]) ?_ 2 _ rfl; refine bT ?_; refine bU (cs := #[.int .i64 0, .int .i64 0, .int .i64 0, .int .u64 0, .string (⟨#[]⟩ : ByteArray)]) ?_ 1 _ rfl; refine bT ?_; refine bU (cs := #[.int .i64 0, .int .i64 0, .int .i64 0, .int .u64 0, .string (⟨#[]⟩ : ByteArray)]) ?_ 0 _ rfl; exact bT BK268.out) Tryd.underlying26 rfl (by kernel_rfl)) rfl ?_
        exact ⟨by first | rfl | (simp [errW_none, errW_some] <;> rfl) | (simp [*, errW_none, errW_some] <;> rfl), bA⟩
      ·rw [if_neg c13] at H
       exact absurd H (by simp)
     ·rw [if_neg c12] at H
      exact absurd H (by simp)
   ·rw [if_neg c6] at H
    exact absurd H (by simp)
  ·rw [if_neg c5] at H
   exact absurd H (by simp)
def r12_Scan.l0 : Nat → ByteArray → List (S26) → ByteArray → Option ((List (S26)) × Int)
 | 0, _, _, _ => none
 | k + 1, x0, x4, x5 => (r12_Take.f k x5).bind fun bt278 => (if bt278.2.2.2.2.2.2 = 0 then (if x4.length < 2932031007402 then (r12_Scan.l0 k x0 (x4 ++ [(⟨bt278.1, bt278.2.1, bt278.2.2.1, bt278.2.2.2.1, bt278.2.2.2.2.1⟩ : S26)]) bt278.2.2.2.2.2.1) else (none)) else (some (x4, wrap64 ((x0.size : Int) - (x5.size : Int)))))
def r12_Scan.f (k : Nat) (a0 : ByteArray) : Option ((List (S26)) × Int) := r12_Scan.l0 k a0 ([] : List (S26)) a0
theorem r12_Scan.mono_l : ∀ k, (∀ y0 y1 y2, LeO (r12_Scan.l0 k y0 y1 y2) (r12_Scan.l0 (k + 1) y0 y1 y2))
 | 0 => fun _ _ _ r h => by simp [r12_Scan.l0] at h
 | k + 1 => by
  have ih0 := r12_Scan.mono_l k
  ·intro y0 y1 y2
   unfold r12_Scan.l0
   repeat' first
   | (with_reducible exact ih0 _ _ _)
   | (with_reducible exact r12_Take.mono _ _)
   | (with_reducible exact LeO.refl _)
   | (with_reducible exact LeO.none _)
   | (with_reducible refine LeO.ite ?_ ?_)
   | (with_reducible refine LeO.bind ?_ (fun _ => ?_))
   | exact ih0 _ _ _
   | exact r12_Take.mono _ _
   | exact LeO.none _
   | refine LeO.ite ?_ ?_
   | refine LeO.bind ?_ (fun _ => ?_)
theorem r12_Scan.mono : ∀ a0 k, LeO (r12_Scan.f k a0) (r12_Scan.f (k + 1) a0) := by
 intro a0 k
 have ih0 := r12_Scan.mono_l k
 unfold r12_Scan.f
 repeat' first
   | (with_reducible exact ih0 _ _ _)
   | (with_reducible exact r12_Take.mono _ _)
   | (with_reducible exact LeO.refl _)
   | (with_reducible exact LeO.none _)
   | (with_reducible refine LeO.ite ?_ ?_)
   | (with_reducible refine LeO.bind ?_ (fun _ => ?_))
   | exact ih0 _ _ _
   | exact r12_Take.mono _ _
   | exact LeO.none _
   | refine LeO.ite ?_ ?_
   | refine LeO.bind ?_ (fun _ => ?_)
set_option maxHeartbeats 8000000 in
set_option maxRecDepth 100000 in
theorem r12_Scan.calls (k : Nat) (a0 : ByteArray) (r1 : List (S26)) (r2 : Int) (w : World) (h : r12_Scan.f k a0 = some (r1, r2)) :
  Calls Tryd.prog 30 #[.string a0] w fun e w' => ∃ v0_ : Value, e = .returned (.tuple #[v0_, .int .i64 r2]) ∧ Kd.R k26 26 w' w.heap.size (fun _ => True) v0_ r1 ∧ Below w.heap.size w w' := by
 have hu26 := Tryd.underlying26
 have HB := Ax.mk (Below.refl w.heap.size w)
 have H : (r12_Scan.l0 k a0 ([] : List (S26)) a0) = some (r1, r2) := h
 clear h
 have H' := Ax.mk H
 clear H
 go_enter Tryd.func30, Tryd.ntmps30
 go_wp2
 go_loopg [4, 5] k (fun kq v4 v5 w' => ∃ (x4_1 : List (S26)) (x5_1 : ByteArray), v5 = .string x5_1 ∧ Ax (r12_Scan.l0 kq a0 x4_1 x5_1 = some (r1, r2)) ∧ Ax (kq ≤ k) ∧ Ax (Kd.R k26 26 w' w.heap.size (fun _ => True) v4 x4_1) ∧ Ax (Below w.heap.size w w'))
 case atStart => exact ⟨(([] : List (S26))), (a0), (by first | rfl | (simp; done) | (simp [*]; done)), H', ⟨Nat.le_refl _⟩, ⟨by first | exact Kd.R_nil _ _ _ _ _ | exact Kd.N_nil _ _ _ _ _ | exact Kd.V_nil _ _ _ _ _ | exact Kd.Q_nil _ _ _ _ _ | exact Kd.S_nil _ _ _ _ _⟩, ⟨bA⟩⟩
 case round =>
  clear H'
  obtain ⟨x4_1, x5_1, rfl, HA, HK1, HO_4, HB⟩ := hrel
  cases gk with
  | zero => exact absurd HA.out (by simp [r12_Scan.l0])
  | succ k1 =>
   have H := HA.out
   clear HA
   simp only [r12_Scan.l0] at H
   replace H := Option.bind_eq_some_iff.mp H
   obtain ⟨⟨t278, t279, t280, t281, t282, t283, t284⟩, A20, H⟩ := H
   replace H : (if t284 = 0 then (if x4_1.length < 2932031007402 then (r12_Scan.l0 k1 a0 (x4_1 ++ [(⟨t278, t279, t280, t281, t282⟩ : S26)]) t283) else (none)) else (some (x4_1, wrap64 ((a0.size : Int) - (x5_1.size : Int))))) = some (r1, r2) := H
   have A2 := Ax.mk A20
   clear A20
   by_cases c3 : t284 = 0
   ·rw [if_pos c3] at H
    have c3b0 : (t284 == 0) = true := beq_iff_eq.mpr c3
    have c3b1 : (t284 != 0) = false := bne_eq_false_iff_eq.mpr c3
    clear c3
    by_cases c4 : x4_1.length < 2932031007402
    ·rw [if_pos c4] at H
     have LMc4 := Ax.mk c4
     clear c4
     obtain ⟨y286, hy286⟩ : ∃ y_ : List (S26), y_ = (x4_1 ++ [(⟨t278, t279, t280, t281, t282⟩ : S26)]) := ⟨_, rfl⟩
     replace H : (r12_Scan.l0 k1 a0 y286 t283) = some (r1, r2) := by first | (rw [hy286]; with_reducible exact H) | (have H2_ := (Option.bind_some _ _).symm.trans H; rw [hy286]; with_reducible exact H2_) | (have H2_ := (Option.bind_some _ _).symm.trans H; with_reducible exact H2_) | with_reducible exact H | (rw [hy286]; exact H) | exact H
     have Ny286 := Ax.mk hy286
     clear hy286
     have H' := Ax.mk H
     clear H
     go_wp2_with (first | ((with_reducible refine gate_callee (f := 28) rfl ?_); refine goesL_ (some 12) rfl rfl Tryd.func28 (by kernel_rfl) rfl #[.string x5_1] rfl (by (try simp only [List.map_toArray, List.map_cons, List.map_nil]); first | done | rfl | (simp only [List.length_drop, List.length_take]; rfl) | (rw [wrap_sum2 (by assumption)]; rfl)) ?_; (with_reducible refine (r12_Take.calls k1 x5_1 t278 t279 t280 t281 t282 t283 t284 _ A2.out).mono ?_); rintro e w5 ⟨rfl, hb⟩; refine ⟨_, rfl, ?_⟩; have n0_ := Ax.mk (Kd.R_below (by exact Kd.R_to HO_4.out) hb); have n1_ := Ax.mk (bP bA hb); clear HO_4; clear HB; have HO_4 := n0_; have HB := n1_; clear n0_ n1_; (try clear hb); (try clear hb2); (try clear hk); (try clear hi)) | ((with_reducible refine gate_dst (N := 6) rfl ?_); refine box_event ?hg (N := 6) ?hd (cs := #[.int .i64 0, .int .i64 0, .int .i64 0, .int .u64 0, .string (⟨#[]⟩ : ByteArray)]) (t := 26) ?hr ?_; (case hd => rfl); (case hg => rfl); (case hr => first | (go_simp; done) | (go_simp; rfl)); intro gb285 hg w6 hbox hb; have n0_ := Ax.mk (Kd.R_below (Kd.R_elderB (by exact Kd.R_to HO_4.out) gb285 (Nat.le_of_eq hg.symm)) hb); have n1_ := Ax.mk (bP bA hb); have n2_ := Ax.mk (hbox); have n3_ := Ax.mk ((ge_new hg : w.heap.size ≤ gb285)); have n4_ := n3_; clear HO_4; clear HB; have HO_4 := n0_; have HB := n1_; have BK285 := n2_; have GW285 := n3_; have GE285 := n4_; clear n0_ n1_ n2_ n3_ n4_; clear hb hbox hg; have hcz7_0 : w6.cell? ⟨gb285, 0, none⟩ = some (.int .i64 0) := (bC BK285.out 0).trans rfl; have hcz7_1 : w6.cell? ⟨gb285, 1, none⟩ = some (.int .i64 0) := (bC BK285.out 1).trans rfl; have hcz7_2 : w6.cell? ⟨gb285, 2, none⟩ = some (.int .i64 0) := (bC BK285.out 2).trans rfl; have hcz7_3 : w6.cell? ⟨gb285, 3, none⟩ = some (.int .u64 0) := (bC BK285.out 3).trans rfl; have hcz7_4 : w6.cell? ⟨gb285, 4, none⟩ = some (.string (⟨#[]⟩ : ByteArray)) := (bC BK285.out 4).trans rfl; have hfz7_0 := bF BK285.out 0; have hfz7_1 := bF BK285.out 1; have hfz7_2 := bF BK285.out 2; have hfz7_3 := bF BK285.out 3; have hfz7_4 := bF BK285.out 4) | ((with_reducible refine gate_builtin (b := .append) (xs := #[.tmp 24, .tmp 26]) rfl ?_); at_builtin; refine Kd.R_append k26 (w0 := w) w.heap.size rfl (.tmp 24) (.tmp 26) 27 26 (.agg #[(.int .i64 0), (.int .i64 0), (.int .i64 0), (.int .u64 0), (.string ⟨#[]⟩)]) 48 rfl Tryd.underlying27 info26 rfl (by decide) (by omega) u4 x4_1 (⟨t278, t279, t280, t281, t282⟩ : S26) [.int .i64 t278, .int .i64 t279, .int .i64 t280, .int .u64 t281, .string t282] (fun k_ => k_ ≠ gb285) (fun _ => False) rfl (by first | (go_simp; done) | (go_simp; rfl)) ?aP (fun _ hk => hk.elim) ?aF ?aO ?aB ?aS ?aL ?_; (case aP => exact k26_mkM _ _ _ (⟨t278, t279, t280, t281, t282⟩ : S26)); (case aB => exact bA); (case aF => exact (fun k_ hk => Kd.freshB (g := gb285) (o := .cells #[.int .i64 t278, .int .i64 t279, .int .i64 t280, .int .u64 t281, .string t282] 26 (0, 0)) (by refine bT ?_; refine bU (cs := #[.int .i64 t278, .int .i64 t279, .int .i64 t280, .int .u64 t281, .string (⟨#[]⟩ : ByteArray)]) ?_ 4 _ rfl; refine bT ?_; refine bU (cs := #[.int .i64 t278, .int .i64 t279, .int .i64 t280, .int .u64 0, .string (⟨#[]⟩ : ByteArray)]) ?_ 3 _ rfl; refine bT ?_; refine bU (cs := #[.int .i64 t278, .int .i64 t279, .int .i64 0, .int .u64 0, .string (⟨#[]⟩ : ByteArray)]) ?_ 2 _ rfl; refine bT ?_; refine bU (cs := #[.int .i64 t278, .int .i64 0, .int .i64 0, .int .u64 0, .string (⟨#[]⟩ : ByteArray)]) ?_ 1 _ rfl; refine bT ?_; refine bU (cs := #[.int .i64 0, .int .i64 0, .int .i64 0, .int .u64 0, .string (⟨#[]⟩ : ByteArray)]) ?_ 0 _ rfl; exact bT BK285.out) k_ hk)); (case aO => exact (by apply Kd.R_to; exact Kd.R_mono (Kd.R_far (p := ⟨gb285, 4, none⟩) (Kd.R_far (p := ⟨gb285, 3, none⟩) (Kd.R_far (p := ⟨gb285, 2, none⟩) (Kd.R_far (p := ⟨gb285, 1, none⟩) (Kd.R_far (p := ⟨gb285, 0, none⟩) (Kd.R_mono HO_4.out (fun k_ hk => (⟨hk, hk.2⟩ : _ ∧ k_ ≠ gb285))) (fun _ hk => hk.2) (.int .i64 t278)) (fun _ hk => hk.2) (.int .i64 t279)) (fun _ hk => hk.2) (.int .i64 t280)) (fun _ hk => hk.2) (.int .u64 t281)) (fun _ hk => hk.2) (.string t282)) (fun _ hk => hk.1.2))); (case aS => exact (bS bA)); (case aL => have := LMc4.out; omega); intro v287 w8 ho hb hg hat; rw [← Ny286.out] at ho; have n0_ := Ax.mk (blk_grown (g := gb285) (o := .cells #[.int .i64 t278, .int .i64 t279, .int .i64 t280, .int .u64 t281, .string t282] 26 (0, 0)) (by refine bT ?_; refine bU (cs := #[.int .i64 t278, .int .i64 t279, .int .i64 t280, .int .u64 t281, .string (⟨#[]⟩ : ByteArray)]) ?_ 4 _ rfl; refine bT ?_; refine bU (cs := #[.int .i64 t278, .int .i64 t279, .int .i64 t280, .int .u64 0, .string (⟨#[]⟩ : ByteArray)]) ?_ 3 _ rfl; refine bT ?_; refine bU (cs := #[.int .i64 t278, .int .i64 t279, .int .i64 0, .int .u64 0, .string (⟨#[]⟩ : ByteArray)]) ?_ 2 _ rfl; refine bT ?_; refine bU (cs := #[.int .i64 t278, .int .i64 0, .int .i64 0, .int .u64 0, .string (⟨#[]⟩ : ByteArray)]) ?_ 1 _ rfl; refine bT ?_; refine bU (cs := #[.int .i64 0, .int .i64 0, .int .i64 0, .int .u64 0, .string (⟨#[]⟩ : ByteArray)]) ?_ 0 _ rfl; exact bT BK285.out) hg (Kd.R_away HO_4.out (fun _ hk => hk.2))); have n1_ := Ax.mk (hb); have n2_ := Ax.mk (ho); clear BK285; clear HB; clear HO_4; have BK285 := n0_; have HB := n1_; have HO288 := n2_; clear n0_ n1_ n2_; clear ho hb hg hat))
     go_roundg k1
     case measure => have := HK1.out; omega
     case rel => exact ⟨(y286), (t283), (by first | rfl | (simp; done) | (simp [*]; done)), H', ⟨by have := HK1.out; omega⟩, ⟨by apply Kd.R_to; exact Kd.R_mono HO288.out (fun _ hk => trivial)⟩, ⟨bA⟩⟩
    ·rw [if_neg c4] at H
     exact absurd H (by simp)
   ·rw [if_neg c3] at H
    have c3b0 : (t284 == 0) = false := beq_eq_false_iff_ne.mpr c3
    have c3b1 : (t284 != 0) = true := bne_iff_ne.mpr c3
    simp only [Option.some.injEq, Prod.mk.injEq] at H
    obtain ⟨rfl, rfl⟩ := H
    go_wp2_with (first | ((with_reducible refine gate_callee (f := 28) rfl ?_); refine goesL_ (some 12) rfl rfl Tryd.func28 (by kernel_rfl) rfl #[.string x5_1] rfl (by (try simp only [List.map_toArray, List.map_cons, List.map_nil]); first | done | rfl | (simp only [List.length_drop, List.length_take]; rfl) | (rw [wrap_sum2 (by assumption)]; rfl)) ?_; (with_reducible refine (r12_Take.calls k1 x5_1 t278 t279 t280 t281 t282 t283 t284 _ A2.out).mono ?_); rintro e w9 ⟨rfl, hb⟩; refine ⟨_, rfl, ?_⟩; have n0_ := Ax.mk (Kd.R_below (by exact Kd.R_to HO_4.out) hb); have n1_ := Ax.mk (bP bA hb); clear HO_4; clear HB; have HO_4 := n0_; have HB := n1_; clear n0_ n1_; (try clear hb); (try clear hb2); (try clear hk); (try clear hi)) | ((with_reducible refine gate_dst (N := 6) rfl ?_); refine box_event ?hg (N := 6) ?hd (cs := #[.int .i64 0, .int .i64 0, .int .i64 0, .int .u64 0, .string (⟨#[]⟩ : ByteArray)]) (t := 26) ?hr ?_; (case hd => rfl); (case hg => rfl); (case hr => first | (go_simp; done) | (go_simp; rfl)); intro gb285 hg w10 hbox hb; have n0_ := Ax.mk (Kd.R_below (Kd.R_elderB (by exact Kd.R_to HO_4.out) gb285 (Nat.le_of_eq hg.symm)) hb); have n1_ := Ax.mk (bP bA hb); have n2_ := Ax.mk (hbox); have n3_ := Ax.mk ((ge_new hg : w.heap.size ≤ gb285)); have n4_ := n3_; clear HO_4; clear HB; have HO_4 := n0_; have HB := n1_; have BK285 := n2_; have GW285 := n3_; have GE285 := n4_; clear n0_ n1_ n2_ n3_ n4_; clear hb hbox hg; have hcz11_0 : w10.cell? ⟨gb285, 0, none⟩ = some (.int .i64 0) := (bC BK285.out 0).trans rfl; have hcz11_1 : w10.cell? ⟨gb285, 1, none⟩ = some (.int .i64 0) := (bC BK285.out 1).trans rfl; have hcz11_2 : w10.cell? ⟨gb285, 2, none⟩ = some (.int .i64 0) := (bC BK285.out 2).trans rfl; have hcz11_3 : w10.cell? ⟨gb285, 3, none⟩ = some (.int .u64 0) := (bC BK285.out 3).trans rfl; have hcz11_4 : w10.cell? ⟨gb285, 4, none⟩ = some (.string (⟨#[]⟩ : ByteArray)) := (bC BK285.out 4).trans rfl; have hfz11_0 := bF BK285.out 0; have hfz11_1 := bF BK285.out 1; have hfz11_2 := bF BK285.out 2; have hfz11_3 := bF BK285.out 3; have hfz11_4 := bF BK285.out 4))
    go_ret2
    exact ⟨_, by first | rfl | (simp [errW_none, errW_some] <;> rfl) | (simp [*, errW_none, errW_some] <;> rfl), by apply Kd.R_to; exact Kd.R_mono (Kd.R_far (p := ⟨gb285, 4, none⟩) (Kd.R_far (p := ⟨gb285, 3, none⟩) (Kd.R_far (p := ⟨gb285, 2, none⟩) (Kd.R_far (p := ⟨gb285, 1, none⟩) (Kd.R_far (p := ⟨gb285, 0, none⟩) (Kd.R_mono HO_4.out (fun k_ hk => (⟨hk, hk.2⟩ : _ ∧ k_ ≠ gb285))) (fun _ hk => hk.2) (.int .i64 t278)) (fun _ hk => hk.2) (.int .i64 t279)) (fun _ hk => hk.2) (.int .i64 t280)) (fun _ hk => hk.2) (.int .u64 t281)) (fun _ hk => hk.2) (.string t282)) (fun _ hk => trivial), bA⟩
end Go.Proofs.YtboommbclbjlnaaDoor.Fn
end
