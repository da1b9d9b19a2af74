import Derived.Test.YtakpedenoocmpaaProg
import Derived.Below
import Derived.Deep.Draws
import Derived.Deep.AppendLies
import Derived.Maps.AppendAt
import Derived.OwnWalk
import Derived.Laws.BytesArg
import Derived.Laws.MakeOwn
import Derived.Laws.OwnMore
import Derived.Deep.OwnRows
import Derived.Tactics
import Derived.Lib.ConvBytes
import Derived.Laws.Slices
import Derived.Laws.CopyOwn
import Derived.Lib.SliceRun
import Derived.WalkKit
import Derived.KernelRfl
import Derived.RowKit3
import Derived.Deep.LoopGhost
import Derived.Deep.QuietTactic
import Derived.BigQuiet
import Derived.WideLaws
import Derived.Deep.DeepCutAuto
import Derived.Deep.CutBlock
import Derived.Deep.RegionHeld3
import Derived.Deep.RegionLaw
import Derived.Laws.Rows
import Derived.Lib.AppendStr
import Derived.ArgAppend
import Derived.Laws.IdiomCopy
import Derived.OrdersHeld
import Derived.Laws.BitsLemmas
import Derived.RowKit
import Derived.Test.YtakpedenoocmpaaWWords
import Derived.Test.YtakpedenoocmpaaWLast
import Derived.Test.YtakpedenoocmpaaWTab
import Derived.Test.YtakpedenoocmpaaWFour
import Derived.Test.YtakpedenoocmpaaWQPut
import Derived.Test.YtakpedenoocmpaaWApart
import Derived.Test.YtakpedenoocmpaaWArr
import Derived.Test.YtakpedenoocmpaaWZeros
import Derived.Test.YtakpedenoocmpaaWFoot
import Derived.Test.YtakpedenoocmpaaWKept
import Derived.Test.YtakpedenoocmpaaWShare
import Derived.Test.YtakpedenoocmpaaWN
import Derived.Test.YtakpedenoocmpaaWFootNe
import Derived.Test.YtakpedenoocmpaaWAt
import Derived.Test.YtakpedenoocmpaaWEqStruct
import Derived.Test.YtakpedenoocmpaaWRepsOne
import Derived.Test.YtakpedenoocmpaaWInv
import Derived.Test.YtakpedenoocmpaaWInvWords
import Derived.Test.YtakpedenoocmpaaWGuard
import Derived.Test.YtakpedenoocmpaaWNEv
import Derived.Test.YtakpedenoocmpaaWMore
/-! The device: what a device's blocks hold (IsDev), and how it lies beside others (Devs). -/
namespace Go.Proofs.Ytakpedenoocmpaa.Dv
open Go.RowKit Go.Proofs.YtakpedenoocmpaaW.PrintWords Go.Proofs.YtakpedenoocmpaaW.PrintLast Go.Proofs.YtakpedenoocmpaaW.PrintMore
set_option linter.unusedVariables false
set_option linter.unusedSimpArgs false

/-- A device, as plain data. -/
structure Dev where
  now : List ByteArray
  last : List ByteArray
  pend : List (Int × ByteArray)
  left : Int
  down : Bool

structure Dev.Ok (D : Dev) : Prop where
  len : D.last.length = D.now.length
  pos : 0 < D.now.length
  small : D.now.length ≤ 8192
  at_ : ∀ p, p ∈ D.pend → 0 ≤ p.1 ∧ p.1 < D.now.length
  left0 : -1 ≤ D.left
  left1 : D.left < 9223372036854775808

/-- the kind of a pending write. -/
def kW : Kd (Int × ByteArray) := Kd.pair (Kd.int .i64) Kd.string
theorem kW_E : kW.E = [] := rfl
theorem kW_sz : kW.sz = 2 := rfl
theorem kW_mk (w : World) (base : Nat) (ok : Nat → Prop) (x : Int × ByteArray) : kW.M w base ok x [.int .i64 x.1, .string x.2] := ⟨[.int .i64 x.1], [.string x.2], rfl, rfl, rfl⟩
theorem kW_open {w : World} {base : Nat} {ok : Nat → Prop} {x : Int × ByteArray} {cs : List Value} (h : kW.M w base ok x cs) : cs = [.int .i64 x.1, .string x.2] := by
  obtain ⟨_, _, rfl, rfl, rfl⟩ := h
  exact rfl

/-- A device's types: its own, a sector's, a pending write's. -/
def Dt (t : Nat) : Prop := t = 59 ∨ t = 9 ∨ t = 62

/-- Block g of W is device D; its blocks are F's, all from b on. -/
structure Op (W : World) (b : Nat) (F : Nat → Prop) (g : Nat) (D : Dev) (g1 c1 g2 c2 : Nat) (v3 : Value) : Prop where
  blk : W.heap[g]? = some (.cells #[.slice (some ⟨g1, 0, none⟩) D.now.length c1, .slice (some ⟨g2, 0, none⟩) D.last.length c2, v3, .int .i64 D.left, .bool D.down] 59 (0, 0))
  ge : b ≤ g
  mem : F g
  now : Kd.string.R 9 W b F (.slice (some ⟨g1, 0, none⟩) D.now.length c1) D.now
  last : Kd.string.R 9 W b F (.slice (some ⟨g2, 0, none⟩) D.last.length c2) D.last
  pend : kW.R 62 W b F v3 D.pend
  ne : g1 ≠ g2
  ok : D.Ok
def IsDev (W : World) (b : Nat) (F : Nat → Prop) (g : Nat) (D : Dev) : Prop := ∃ g1 c1 g2 c2 v3, Op W b F g D g1 c1 g2 c2 v3

section
variable {W W1 : World} {b g g1 c1 g2 c2 : Nat} {F F' : Nat → Prop} {D : Dev} {v3 : Value}
theorem Op.blk1 (h : Op W b F g D g1 c1 g2 c2 v3) : ∃ cells, W.heap[g1]? = some (.cells cells 9 (0, 0)) := Kd.R_typed h.now g1 rfl
theorem Op.blk2 (h : Op W b F g D g1 c1 g2 c2 v3) : ∃ cells, W.heap[g2]? = some (.cells cells 9 (0, 0)) := Kd.R_typed h.last g2 rfl
theorem Op.ne1 (h : Op W b F g D g1 c1 g2 c2 v3) : g ≠ g1 := by
  obtain ⟨cells, hc⟩ := h.blk1
  exact blk_ne h.blk hc (by decide)
theorem Op.ne2 (h : Op W b F g D g1 c1 g2 c2 v3) : g ≠ g2 := by
  obtain ⟨cells, hc⟩ := h.blk2
  exact blk_ne h.blk hc (by decide)
theorem Op.ne3 (h : Op W b F g D g1 c1 g2 c2 v3) : some g ≠ v3.ownBlock := Kd.R_ne h.pend h.blk (by decide)
theorem Op.ne13 (h : Op W b F g D g1 c1 g2 c2 v3) : some g1 ≠ v3.ownBlock := by
  obtain ⟨cells, hc⟩ := h.blk1
  exact Kd.R_ne h.pend hc (by decide)
theorem Op.ne23 (h : Op W b F g D g1 c1 g2 c2 v3) : some g2 ≠ v3.ownBlock := by
  obtain ⟨cells, hc⟩ := h.blk2
  exact Kd.R_ne h.pend hc (by decide)
theorem Op.F1 (h : Op W b F g D g1 c1 g2 c2 v3) : F g1 := h.now.1 g1 rfl
theorem Op.F2 (h : Op W b F g D g1 c1 g2 c2 v3) : F g2 := h.last.1 g2 rfl
theorem Op.F3 (h : Op W b F g D g1 c1 g2 c2 v3) : ∀ k, v3.ownBlock = some k → F k := h.pend.1
theorem Op.cell0 (h : Op W b F g D g1 c1 g2 c2 v3) : W.cell? ⟨g, 0, none⟩ = some (.slice (some ⟨g1, 0, none⟩) D.now.length c1) := (blk_cell h.blk 0).trans rfl
theorem Op.cell1 (h : Op W b F g D g1 c1 g2 c2 v3) : W.cell? ⟨g, 1, none⟩ = some (.slice (some ⟨g2, 0, none⟩) D.last.length c2) := (blk_cell h.blk 1).trans rfl
theorem Op.cell2 (h : Op W b F g D g1 c1 g2 c2 v3) : W.cell? ⟨g, 2, none⟩ = some v3 := (blk_cell h.blk 2).trans rfl
theorem Op.cell3 (h : Op W b F g D g1 c1 g2 c2 v3) : W.cell? ⟨g, 3, none⟩ = some (.int .i64 D.left) := (blk_cell h.blk 3).trans rfl
theorem Op.cell4 (h : Op W b F g D g1 c1 g2 c2 v3) : W.cell? ⟨g, 4, none⟩ = some (.bool D.down) := (blk_cell h.blk 4).trans rfl
theorem Op.frz (h : Op W b F g D g1 c1 g2 c2 v3) (i : Nat) : W.frozen? ⟨g, i, none⟩ = false := blk_frozen h.blk i
theorem Op.at1 (h : Op W b F g D g1 c1 g2 c2 v3) (i : Int) (h0 : 0 ≤ i) (hi : i < D.now.length) : W.cell? ⟨g1, i.toNat, none⟩ = some (.string (rdOf ByteArray.empty D.now i)) ∧ W.frozen? ⟨g1, i.toNat, none⟩ = false := Kd.R_cell ByteArray.empty h.now i h0 hi
theorem Op.at2 (h : Op W b F g D g1 c1 g2 c2 v3) (i : Int) (h0 : 0 ≤ i) (hi : i < D.last.length) : W.cell? ⟨g2, i.toNat, none⟩ = some (.string (rdOf ByteArray.empty D.last i)) ∧ W.frozen? ⟨g2, i.toNat, none⟩ = false := Kd.R_cell ByteArray.empty h.last i h0 hi

theorem Op.step (h : Op W b F g D g1 c1 g2 c2 v3) (hs : ∀ k, F k → k < W.heap.size → W1.heap[k]? = W.heap[k]?) : Op W1 b F g D g1 c1 g2 c2 v3 :=
  ⟨(hs g h.mem (blk_lt h.blk)).trans h.blk, h.ge, h.mem, Kd.R_step h.now hs, Kd.R_step h.last hs, Kd.R_step h.pend hs, h.ne, h.ok⟩
theorem Op.mono (h : Op W b F g D g1 c1 g2 c2 v3) (hs : ∀ k, F k → F' k) : Op W b F' g D g1 c1 g2 c2 v3 :=
  ⟨h.blk, h.ge, hs g h.mem, Kd.R_mono h.now hs, Kd.R_mono h.last hs, Kd.R_mono h.pend hs, h.ne, h.ok⟩
theorem Op.bound (h : Op W b F g D g1 c1 g2 c2 v3) : Op W b (fun k => F k ∧ b ≤ k ∧ k < W.heap.size ∧ ∃ t, Dt t ∧ ∃ cells, W.heap[k]? = some (.cells cells t (0, 0))) g D g1 c1 g2 c2 v3 :=
  ⟨h.blk, h.ge, ⟨h.mem, h.ge, blk_lt h.blk, 59, .inl rfl, _, h.blk⟩,
   Kd.R_mono (Kd.R_bound h.now) (fun k ⟨h0, h1, h2, q, hq, hc⟩ => ⟨h0, h1, h2, q, by rcases List.mem_cons.1 hq with rfl | hq; exact .inr (.inl rfl); exact absurd hq (List.not_mem_nil), hc⟩),
   Kd.R_mono (Kd.R_bound h.last) (fun k ⟨h0, h1, h2, q, hq, hc⟩ => ⟨h0, h1, h2, q, by rcases List.mem_cons.1 hq with rfl | hq; exact .inr (.inl rfl); exact absurd hq (List.not_mem_nil), hc⟩),
   Kd.R_mono (Kd.R_bound h.pend) (fun k ⟨h0, h1, h2, q, hq, hc⟩ => ⟨h0, h1, h2, q, by rcases List.mem_cons.1 hq with rfl | hq; exact .inr (.inr rfl); exact absurd hq (by rw [kW_E]; exact List.not_mem_nil), hc⟩),
   h.ne, h.ok⟩

theorem IsDev.step (h : IsDev W b F g D) (hs : ∀ k, F k → k < W.heap.size → W1.heap[k]? = W.heap[k]?) : IsDev W1 b F g D := by
  obtain ⟨g1, c1, g2, c2, v3, h⟩ := h
  exact ⟨g1, c1, g2, c2, v3, h.step hs⟩
theorem IsDev.mono (h : IsDev W b F g D) (hs : ∀ k, F k → F' k) : IsDev W b F' g D := by
  obtain ⟨g1, c1, g2, c2, v3, h⟩ := h
  exact ⟨g1, c1, g2, c2, v3, h.mono hs⟩
theorem IsDev.bound (h : IsDev W b F g D) : IsDev W b (fun k => F k ∧ b ≤ k ∧ k < W.heap.size ∧ ∃ t, Dt t ∧ ∃ cells, W.heap[k]? = some (.cells cells t (0, 0))) g D := by
  obtain ⟨g1, c1, g2, c2, v3, h⟩ := h
  exact ⟨g1, c1, g2, c2, v3, h.bound⟩
theorem IsDev.ok (h : IsDev W b F g D) : D.Ok := by
  obtain ⟨g1, c1, g2, c2, v3, h⟩ := h
  exact h.ok
end

/-- What a call of a device does to the world: it writes blocks of F alone, and new ones. -/
structure Mv (W W1 : World) (F : Nat → Prop) : Prop where
  os : W1.os = W.os
  tape : W1.tape = W.tape
  output : W1.output = W.output
  size : W.heap.size ≤ W1.heap.size
  block : ∀ k, k < W.heap.size → ¬ F k → W1.heap[k]? = W.heap[k]?
theorem Mv.refl (W : World) (F : Nat → Prop) : Mv W W F := ⟨rfl, rfl, rfl, Nat.le_refl _, fun _ _ _ => rfl⟩
theorem Mv.trans {W W1 W2 : World} {F F1 : Nat → Prop} (h : Mv W W1 F) (k : Mv W1 W2 F1) (hF : ∀ j, F1 j → F j ∨ W.heap.size ≤ j) : Mv W W2 F :=
  ⟨k.os.trans h.os, k.tape.trans h.tape, k.output.trans h.output, Nat.le_trans h.size k.size, fun j hj hn => (k.block j (Nat.lt_of_lt_of_le hj h.size) (fun hf => by
    rcases hF j hf with hf | hf
    · exact hn hf
    · omega)).trans (h.block j hj hn)⟩
theorem Mv.drewN {W W1 : World} {F : Nat → Prop} (h : Mv W W1 F) (n : Nat) : Mv W (W1.drewN n) F := ⟨h.os, h.tape, h.output, h.size, h.block⟩
theorem Mv.setCell {W W1 : World} {F : Nat → Prop} (h : Mv W W1 F) {p : Addr} (hp : F p.block ∨ W.heap.size ≤ p.block) (u : Value) : Mv W (W1.setCell p u) F :=
  h.trans (F1 := fun k => k = p.block) ⟨rfl, rfl, rfl, by simp [World.setCell], fun k _ hk => Below.heap_setCell W1 p u k hk⟩ (fun j hj => by rw [hj]; exact hp)
theorem Mv.alloc {W W1 : World} {F : Nat → Prop} (h : Mv W W1 F) (o : Obj) : Mv W (W1.alloc o) F :=
  h.trans (F1 := fun _ => False) ⟨rfl, rfl, rfl, by simp, fun k hk _ => Below.heap_alloc W1 o k hk⟩ (fun j hj => hj.elim)
theorem Mv.grown {W W1 W2 : World} {F : Nat → Prop} {row : Option Nat} (h : Mv W W1 F) (hg : W1.grownBy W2 row) (hr : ∀ k, row = some k → F k ∨ W.heap.size ≤ k) : Mv W W2 F :=
  h.trans (F1 := fun k => row = some k) ⟨hg.os, hg.tape, hg.output, hg.size, fun k hk hn => hg.block k hk (fun e => hn e.symm)⟩ hr
theorem Mv.of_below {W W1 : World} (h : Below W.heap.size W W1) (F : Nat → Prop) : Mv W W1 F := ⟨h.os, h.tape, h.output, h.size, fun k hk _ => h.block k hk⟩
theorem Mv.mono {W W1 : World} {F F1 : Nat → Prop} (h : Mv W W1 F) (hF : ∀ k, F k → F1 k) : Mv W W1 F1 := ⟨h.os, h.tape, h.output, h.size, fun k hk hn => h.block k hk (fun hf => hn (hF k hf))⟩
theorem Mv.below {W W1 : World} {F : Nat → Prop} {b : Nat} (h : Mv W W1 F) (hF : ∀ k, F k → b ≤ k) (hb : b ≤ W.heap.size) : Below b W W1 :=
  ⟨h.os, h.tape, h.output, h.size, fun k hk => h.block k (by omega) (fun hf => by have := hF k hf; omega)⟩

/-- What is behind a call of the device at block g. -/
def Moved (W W1 : World) (b : Nat) (F : Nat → Prop) (g : Nat) (D : Dev) : Prop := ∃ F1, IsDev W1 b F1 g D ∧ (∀ k, F1 k → F k ∨ W.heap.size ≤ k) ∧ Mv W W1 F
theorem Moved.same {W W1 : World} {b : Nat} {F : Nat → Prop} {g : Nat} {D : Dev} (h : IsDev W1 b F g D) (hm : Mv W W1 F) : Moved W W1 b F g D := ⟨F, h, fun _ hk => .inl hk, hm⟩
theorem Moved.then_ {W W1 W2 : World} {b : Nat} {F : Nat → Prop} {g : Nat} {D D1 : Dev} (h : Moved W W1 b F g D) (k : ∀ F1, IsDev W1 b F1 g D → Moved W1 W2 b F1 g D1) : Moved W W2 b F g D1 := by
  obtain ⟨F1, h1, hF1, hm1⟩ := h
  obtain ⟨F2, h2, hF2, hm2⟩ := k F1 h1
  refine ⟨F2, h2, fun j hj => ?_, hm1.trans hm2 hF1⟩
  rcases hF2 j hj with h3 | h3
  · exact hF1 j h3
  · exact .inr (Nat.le_trans hm1.size h3)

/-! ### several devices, apart -/
/-- Below b nothing turned, and no block of another type than a device's. -/
structure Fr (b : Nat) (W W1 : World) : Prop where
  below : Below b W W1
  kept : ∀ (k : Nat) (cs : Array Value) (t : Nat) (fr : Nat × Nat), W.heap[k]? = some (.cells cs t fr) → ¬ Dt t → W1.heap[k]? = W.heap[k]?
theorem Fr.refl (b : Nat) (W : World) : Fr b W W := ⟨Below.refl _ _, fun _ _ _ _ _ _ => rfl⟩
theorem Fr.trans {b : Nat} {W W1 W2 : World} (h : Fr b W W1) (k : Fr b W1 W2) : Fr b W W2 :=
  ⟨h.below.trans k.below, fun j cs t fr hj ht => (k.kept j cs t fr ((h.kept j cs t fr hj ht).trans hj) ht).trans (h.kept j cs t fr hj ht)⟩
theorem Fr.drewN {b : Nat} {W W1 : World} (h : Fr b W W1) (n : Nat) : Fr b W (W1.drewN n) := ⟨⟨h.below.os, h.below.tape, h.below.output, h.below.size, h.below.block⟩, h.kept⟩
theorem Fr.of_grow {b : Nat} {W W1 : World} (h : Below W.heap.size W W1) (hb : b ≤ W.heap.size) : Fr b W W1 := ⟨h.mono hb, fun k cs t fr hk _ => h.block k (blk_lt hk)⟩

def Devs (W : World) (b : Nat) (L : List (Nat × Dev)) : Prop :=
  ∃ Fs : Nat → Nat → Prop, (∀ i g D, L[i]? = some (g, D) → IsDev W b (Fs i) g D) ∧ (∀ i j k, i ≠ j → i < L.length → j < L.length → Fs i k → ¬ Fs j k)
theorem Devs.nil (W : World) (b : Nat) : Devs W b [] := ⟨fun _ _ => False, fun i g D h => by simp at h, fun i j k _ hi => by simp at hi⟩
/-- What turns no block of a device's type leaves them. -/
theorem Devs.step {W W1 : World} {b : Nat} {L : List (Nat × Dev)} (h : Devs W b L) (hs : ∀ k t cells, Dt t → W.heap[k]? = some (.cells cells t (0, 0)) → b ≤ k → W1.heap[k]? = W.heap[k]?) : Devs W1 b L := by
  obtain ⟨Fs, h1, h2⟩ := h
  refine ⟨fun i k => Fs i k ∧ b ≤ k ∧ k < W.heap.size ∧ ∃ t, Dt t ∧ ∃ cells, W.heap[k]? = some (.cells cells t (0, 0)), fun i g D hi => (h1 i g D hi).bound.step ?_, fun i j k hne hi hj hk hk' => h2 i j k hne hi hj hk.1 hk'.1⟩
  rintro k ⟨_, hb, _, t, ht, cells, hc⟩ _
  exact hs k t cells ht hc hb
theorem Devs.below {W W1 : World} {b : Nat} {L : List (Nat × Dev)} (h : Devs W b L) (hb : Below W.heap.size W W1) : Devs W1 b L := h.step (fun k t cells _ hc _ => hb.block k (blk_lt hc))
theorem Devs.drewN {W : World} {b : Nat} {L : List (Nat × Dev)} (h : Devs W b L) (n : Nat) : Devs (W.drewN n) b L := h.step (fun _ _ _ _ _ _ => rfl)
theorem Devs.drew {W : World} {b : Nat} {L : List (Nat × Dev)} (h : Devs W b L) : Devs W.drew b L := h.step (fun _ _ _ _ _ _ => rfl)
theorem Devs.alloc {W : World} {b : Nat} {L : List (Nat × Dev)} (h : Devs W b L) (o : Obj) : Devs (W.alloc o) b L := h.below (below_alloc (Below.refl _ _) o)
theorem Devs.far {W : World} {b : Nat} {L : List (Nat × Dev)} (h : Devs W b L) {p : Addr} {cs : Array Value} {t : Nat} {fr : Nat × Nat} (hp : W.heap[p.block]? = some (.cells cs t fr)) (ht : ¬ Dt t) (u : Value) : Devs (W.setCell p u) b L :=
  h.step (fun k t' cells ht' hc _ => Below.heap_setCell W p u k (fun e => by
    subst e
    rw [hp] at hc
    injection hc with hc
    injection hc with _ hc _
    exact ht (hc ▸ ht')))
theorem Devs.drop {W : World} {b : Nat} {L : List (Nat × Dev)} (h : Devs W b L) (n : Nat) : Devs W b (L.take n) := by
  obtain ⟨Fs, h1, h2⟩ := h
  refine ⟨Fs, fun i g D hi => h1 i g D ?_, fun i j k hne hi hj => h2 i j k hne ?_ ?_⟩
  · rw [List.getElem?_take] at hi
    split at hi
    · exact hi
    · cases hi
  · rw [List.length_take] at hi; omega
  · rw [List.length_take] at hj; omega
/-- What is known of a device's blocks. -/
def Bd (W : World) (b : Nat) (F : Nat → Prop) : Prop := ∀ k, F k → b ≤ k ∧ k < W.heap.size ∧ ∃ t, Dt t ∧ ∃ cells, W.heap[k]? = some (.cells cells t (0, 0))
theorem Mv.fr {W W1 : World} {b : Nat} {F : Nat → Prop} (h : Mv W W1 F) (hF : Bd W b F) (hb : b ≤ W.heap.size) : Fr b W W1 :=
  ⟨h.below (fun k hk => (hF k hk).1) hb, fun k cs t fr hk ht => h.block k (blk_lt hk) (by
    intro hf
    obtain ⟨_, _, t', ht', cells, hc⟩ := hF k hf
    rw [hk] at hc
    injection hc with hc
    injection hc with _ hc _
    exact ht (hc ▸ ht'))⟩
/-- A call of one of them. -/
theorem Devs.lift {P : Program} {f : FuncId} {args : Array Value} {W : World} {b : Nat} {L : List (Nat × Dev)} {i g : Nat} {D D1 : Dev} {post : Ending → Prop} (h : Devs W b L) (hb : b ≤ W.heap.size) (hi : L[i]? = some (g, D))
    (hC : ∀ F, Bd W b F → IsDev W b F g D → Calls P f args W (fun e W1 => post e ∧ Moved W W1 b F g D1)) :
    Calls P f args W (fun e W1 => post e ∧ Devs W1 b (L.set i (g, D1)) ∧ Fr b W W1) := by
  obtain ⟨Fs, h1, h2⟩ := h
  refine (hC _ (fun k hk => hk.2) ((h1 i g D hi).bound)).mono ?_
  rintro e W1 ⟨hp, F1, hI, hF1, hM⟩
  have hil : i < L.length := (List.getElem?_eq_some_iff.1 hi).1
  refine ⟨hp, ⟨fun j k => if j = i then F1 k else Fs j k ∧ b ≤ k ∧ k < W.heap.size, fun j g' D' hj => ?_, fun j j' k hne hj hj' hk hk' => ?_⟩, hM.below (fun k hk => hk.2.1) hb, fun k cs t fr hk ht => hM.block k (blk_lt hk) ?_⟩
  · rw [List.getElem?_set] at hj
    by_cases hji : i = j
    · subst hji
      rw [if_pos rfl, if_pos hil] at hj
      injection hj with hj
      injection hj with hg hD
      subst hg; subst hD
      simpa using hI
    · rw [if_neg hji] at hj
      have hj2 : j ≠ i := fun e => hji e.symm
      simp only [if_neg hj2]
      have hjl : j < L.length := (List.getElem?_eq_some_iff.1 hj).1
      refine ((h1 j g' D' hj).bound.mono (fun k hk => ⟨hk.1, hk.2.1, hk.2.2.1⟩)).step (fun k hk _ => hM.block k hk.2.2 (fun hf => h2 j i k hj2 hjl hil hk.1 hf.1))
  · rw [List.length_set] at hj hj'
    by_cases hji : j = i
    · subst hji
      have hj2 : j' ≠ j := fun e => hne e.symm
      simp only [if_pos rfl] at hk
      simp only [if_neg hj2] at hk'
      rcases hF1 k hk with hf | hf
      · exact h2 j j' k hne hj hj' hf.1 hk'.1
      · have := hk'.2.2; omega
    · simp only [if_neg hji] at hk
      by_cases hji' : j' = i
      · subst hji'
        simp only [if_pos rfl] at hk'
        rcases hF1 k hk' with hf | hf
        · exact h2 j j' k hne hj hj' hk.1 hf.1
        · have := hk.2.2; omega
      · simp only [if_neg hji'] at hk'
        exact h2 j j' k hne hj hj' hk.1 hk'.1
  · rintro ⟨_, _, _, t', ht', cells, hc⟩
    rw [hk] at hc
    injection hc with hc
    injection hc with _ hc _
    exact ht (hc ▸ ht')
/-- A new one. -/
theorem Devs.snoc {W W1 : World} {b : Nat} {L : List (Nat × Dev)} {F : Nat → Prop} {g : Nat} {D : Dev} (h : Devs W b L) (hg : Below W.heap.size W W1) (hb : b ≤ W.heap.size) (hI : IsDev W1 b F g D) (hF : ∀ k, F k → W.heap.size ≤ k) : Devs W1 b (L ++ [(g, D)]) := by
  obtain ⟨Fs, h1, h2⟩ := h
  refine ⟨fun j k => if j = L.length then F k else Fs j k ∧ b ≤ k ∧ k < W.heap.size, fun j g' D' hj => ?_, fun j j' k hne hj hj' hk hk' => ?_⟩
  · by_cases hji : j = L.length
    · subst hji
      simp at hj
      obtain ⟨rfl, rfl⟩ := hj
      simpa using hI
    · have hjl : j < L.length := by
        have := (List.getElem?_eq_some_iff.1 hj).1
        rw [List.length_append, List.length_singleton] at this
        omega
      rw [List.getElem?_append_left hjl] at hj
      simp only [if_neg hji]
      refine ((h1 j g' D' hj).bound.mono (fun k hk => ⟨hk.1, hk.2.1, hk.2.2.1⟩)).step (fun k hk _ => hg.block k hk.2.2)
  · rw [List.length_append, List.length_singleton] at hj hj'
    by_cases hji : j = L.length
    · simp only [if_pos hji] at hk
      by_cases hji' : j' = L.length
      · omega
      · simp only [if_neg hji'] at hk'
        have := hF k hk
        have := hk'.2.2
        omega
    · simp only [if_neg hji] at hk
      by_cases hji' : j' = L.length
      · simp only [if_pos hji'] at hk'
        have := hF k hk'
        have := hk.2.2
        omega
      · simp only [if_neg hji'] at hk'
        exact h2 j j' k hne (by omega) (by omega) hk.1 hk'.1
theorem Fr.devs_ok {W : World} {b : Nat} {L : List (Nat × Dev)} (h : Devs W b L) {i g : Nat} {D : Dev} (hi : L[i]? = some (g, D)) : D.Ok := by
  obtain ⟨Fs, h1, _⟩ := h
  exact (h1 i g D hi).ok
end Go.Proofs.Ytakpedenoocmpaa.Dv
