import Derived.Test.YtakpedenoocmpaaRows
import Derived.Test.YtakpedenoocmpaaFnBase
import Derived.PinnedBridge
import Derived.WalkKit
import Derived.ProofKit
import Derived.OpenShut
import Derived.ChangeOld
import Derived.Below
import Derived.SizedLaws
import Derived.Carry
import Derived.Deep.DeepHandedRow
import Derived.Deep.DeepWitnessRowRef
import Derived.Deep.Fields
import Derived.Deep.Slices
import Derived.Lib.SmallJoins
/-! What all rows of this seat share: an argument that is a row of acts, or of numbers, or a number, opened. -/
namespace Go.Proofs.Ytakpedenoocmpaa.DvR
open Go.ChangeShapes Go.WideShapes Go.ChangeAt Go.RowKit Go.Lib Go.Deep Go.Proofs.YtakpedenoocmpaaW.PrintWords Go.Proofs.Ytakpedenoocmpaa.Fn
set_option maxRecDepth 100000
theorem own : ownKnob Try.prog.godebug = none := by kernel_rfl
theorem laidOut : laidOutB Try.prog = true := by kernel_rfl
noncomputable def laidWorld (os : Os) : World := World.holding Try.prog os ⟨#[], #[], []⟩
theorem laid_met (os : Os) (args : Array Value) : laidMet Try.prog [] ((laidWorld os).forCall (fun _ _ => 0) ⟨#[], args, []⟩).memory := laidMet_of_run' 8 (by kernel_rfl) (by kernel_rfl)
section
variable {H : Type} {enc : TypeId × Value → H} {W : World} {base b0 : Nat} {sp : Nat → Bool} {held : Bool}
theorem cells3 : Try.prog.cellsOf 3 = 1 := by kernel_rfl
theorem cells29 : Try.prog.cellsOf 29 = 1 := by kernel_rfl
theorem cells33 : Try.prog.cellsOf 33 = 4 := by kernel_rfl
theorem open_row {α : Type} (d : Kd α) (Q : α → Prop) {t e : TypeId} (ht : Try.prog.underlying t = some (.slice e)) (hsz : Try.prog.cellsOf e = d.sz)
    (core : ∀ (fuel : Nat) (cs : List Value) (y : DataW H × List MemPlace), DataW.trod enc Try.prog W base sp held fuel e cs = some y → ∃ x : α, d.K W x cs ∧ Q x)
    {fuel : Nat} {cs : List Value} {y : DataW H × List MemPlace} (h : DataW.trod enc Try.prog W base sp held fuel t cs = some y) :
    ∃ (A : Option Addr) (l : List α) (c : Nat), cs = [.slice A l.length c] ∧ d.C W A l.length l ∧ l.length ≤ c ∧ ∀ x ∈ l, Q x := by
  rcases open_slice ht h with ⟨rfl, _⟩ | ⟨a, len, cap, m, n, D, Pl, rfl, hb, hl, hm, hmm, hx, hi⟩
  · exact ⟨none, [], 0, rfl, ⟨rfl, Nat.zero_le _, fun h => absurd h (by simp)⟩, Nat.le_refl _, fun x hx => by cases hx⟩
  · have hml : len ≤ m := by rw [hmm]; split <;> omega
    have hall : ∀ k, k ≤ len → ∃ l : List α, l.length = k ∧ (∀ x ∈ l, Q x) ∧ ∀ j p, l[j]? = some p → ∃ c, c.length = d.sz ∧ d.K W p c ∧ ∀ i u, c[i]? = some u → W.cell? (a.add (j * d.sz + i)) = some u := by
      intro k
      induction k with
      | zero => intro _; exact ⟨[], rfl, (fun x hx => by cases hx), (fun j p hj => by simp at hj)⟩
      | succ k ih =>
        intro hk
        obtain ⟨l, hlen, hq, hg⟩ := ih (by omega)
        obtain ⟨cs', hc, ht'⟩ := hi k (by omega)
        obtain ⟨x, hK, hQ⟩ := core _ _ _ ht'
        obtain ⟨_, hcl, hat⟩ := World.cells?_some hc
        rw [hsz] at hcl hat
        refine ⟨l ++ [x], by simp [hlen], fun z hz => ?_, fun j p hj => ?_⟩
        · rcases List.mem_append.1 hz with hz | hz
          · exact hq z hz
          · rw [List.mem_singleton.1 hz]; exact hQ
        · rcases Nat.lt_or_ge j l.length with hjl | hjl
          · rw [List.getElem?_append_left hjl] at hj
            exact hg j p hj
          · rw [List.getElem?_append_right hjl] at hj
            have hj0 : j - l.length = 0 := by
              rcases Nat.eq_zero_or_pos (j - l.length) with h0 | h0
              · exact h0
              · rw [List.getElem?_eq_none (by simp only [List.length_singleton]; omega)] at hj; cases hj
            rw [hj0] at hj
            cases hj
            refine ⟨cs', hcl, hK, fun i u hu => ?_⟩
            have hil : i < d.sz := by rw [← hcl]; exact (List.getElem?_eq_some_iff.1 hu).1
            have h1 := hat i hil
            rw [← Go.Deep.add_add, show j = k by omega, h1, hu]
    obtain ⟨l, hlen, hq, hg⟩ := hall len (Nat.le_refl _)
    subst hlen
    exact ⟨some a, l, cap, rfl, ⟨rfl, by unfold maxLen at hm; omega, fun _ => ⟨a, rfl, hg⟩⟩, hl, hq⟩
/-- What a number may be. -/
def fits (x : Int) : Prop := -9223372036854775808 ≤ x ∧ x ≤ 9223372036854775807
theorem core3 {fuel : Nat} {cs : List Value} {y : DataW H × List MemPlace} (h : DataW.trod enc Try.prog W base sp held fuel 3 cs = some y) : ∃ x : Int, (Kd.int .i64).K W x cs ∧ fits x := by
  obtain ⟨m, e, _, w⟩ := DataW.trod_int Try.underlying3 h
  subst e
  have hb := bounds_i64 w
  exact ⟨m, rfl, by unfold fits; omega⟩
def okAct (x : S33) : Prop := fits x.f0 ∧ fits x.f1 ∧ fits x.f2 ∧ ∀ q ∈ x.f3, fits q
theorem core33 {fuel : Nat} {cs : List Value} {y : DataW H × List MemPlace} (h : DataW.trod enc Try.prog W base sp held fuel 33 cs = some y) : ∃ x : S33, k33.K W x cs ∧ okAct x := by
  obtain ⟨xs, n, _, hx, hl, hlen, hg⟩ := DataW.trod_struct Try.underlying33 h
  match cs, hl.trans cells33 with
  | [c0, c1, c2, c3], _ =>
    match xs, hlen with
    | [y0, y1, y2, y3], _ =>
      have g0 := hg 0 _ rfl
      change DataW.trod enc Try.prog W base sp held n 3 (([c0, c1, c2, c3].drop 0).take (Try.prog.cellsOf 3)) = some y0 at g0
      rw [cells3] at g0
      have g1 := hg 1 _ rfl
      change DataW.trod enc Try.prog W base sp held n 3 (([c0, c1, c2, c3].drop 1).take (Try.prog.cellsOf 3)) = some y1 at g1
      rw [cells3] at g1
      have g2 := hg 2 _ rfl
      change DataW.trod enc Try.prog W base sp held n 3 (([c0, c1, c2, c3].drop 2).take (Try.prog.cellsOf 3)) = some y2 at g2
      rw [cells3] at g2
      have g3 := hg 3 _ rfl
      change DataW.trod enc Try.prog W base sp held n 29 (([c0, c1, c2, c3].drop 3).take (Try.prog.cellsOf 29)) = some y3 at g3
      rw [cells29] at g3
      obtain ⟨m0, e0, w0⟩ := core3 g0
      obtain ⟨m1, e1, w1⟩ := core3 g1
      obtain ⟨m2, e2, w2⟩ := core3 g2
      obtain ⟨A, q, c, e3, h1, h2, w3⟩ := open_row (Kd.int .i64) fits Try.underlying29 cells3 (fun _ _ _ => core3) g3
      cases e0; cases e1; cases e2; cases e3
      exact ⟨⟨m0, m1, m2, q⟩, k33_mk W ⟨m0, m1, m2, q⟩ h2 h1, w0, w1, w2, w3⟩
theorem open_acts {r : Reach} {v : Value} {d : DataW H} {p : List MemPlace} (hv : Value.okWide Try.prog W r b0 22 v) (h : DataW.Trod enc Try.prog W base sp held 22 v d p) :
    ∃ (A : Option Addr) (l : List S33) (c : Nat), v = .slice A l.length c ∧ Kd.C k33 W A l.length l ∧ l.length ≤ c ∧ ∀ x ∈ l, okAct x := by
  obtain ⟨a, n, c, rfl⟩ := okWide_slice Try.underlying22 hv
  obtain ⟨fuel, hf⟩ := h
  obtain ⟨A, l, c', e, h1, h2, h3⟩ := open_row k33 okAct Try.underlying22 cells33 (fun _ _ _ => core33) hf
  exact ⟨A, l, c', List.singleton_inj.1 e, h1, h2, h3⟩
theorem open_nums {r : Reach} {v : Value} {d : DataW H} {p : List MemPlace} (hv : Value.okWide Try.prog W r b0 29 v) (h : DataW.Trod enc Try.prog W base sp held 29 v d p) :
    ∃ (A : Option Addr) (l : List Int) (c : Nat), v = .slice A l.length c ∧ Kd.C (Kd.int .i64) W A l.length l ∧ l.length ≤ c ∧ ∀ x ∈ l, fits x := by
  obtain ⟨a, n, c, rfl⟩ := okWide_slice Try.underlying29 hv
  obtain ⟨fuel, hf⟩ := h
  obtain ⟨A, l, c', e, h1, h2, h3⟩ := open_row (Kd.int .i64) fits Try.underlying29 cells3 (fun _ _ _ => core3) hf
  exact ⟨A, l, c', List.singleton_inj.1 e, h1, h2, h3⟩
theorem open_int {r : Reach} {v : Value} {d : DataW H} {p : List MemPlace} (hv : Value.okWide Try.prog W r b0 3 v) (h : DataW.Trod enc Try.prog W base sp held 3 v d p) : ∃ a : Int, v = .int .i64 a ∧ fits a := by
  obtain ⟨a, rfl, _, _, w⟩ := Go.ChangeShapes.open_int Try.underlying3 hv h
  have hb := bounds_i64 w
  exact ⟨a, rfl, by unfold fits; omega⟩
end
end Go.Proofs.Ytakpedenoocmpaa.DvR
