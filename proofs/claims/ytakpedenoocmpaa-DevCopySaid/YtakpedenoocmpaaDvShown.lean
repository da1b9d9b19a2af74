import Derived.Test.YtakpedenoocmpaaDvDevs
import Derived.Test.YtakpedenoocmpaaFnRootcellarlaw4Sector
import Derived.Test.YtakpedenoocmpaaFnRootcellarlaw4Pick
import Derived.Test.YtakpedenoocmpaaFnRootcellarlaw4Small
/-! sector, pick, small; chapter 4's examples. -/
namespace Go.Proofs.Ytakpedenoocmpaa.Dv
open Go.RowKit Go.Proofs.YtakpedenoocmpaaW.PrintWords Go.Proofs.YtakpedenoocmpaaW.PrintLast Go.Proofs.YtakpedenoocmpaaW.PrintMore
attribute [local go_sem] max2_int min2_int max_two min_two max_three min_three max_four min_four
set_option linter.unusedVariables false
set_option linter.unusedSimpArgs false

theorem sector_l (x0 : Int) : ∀ (j : Nat) (x3 : List Int), x3.length = 64 → j ≤ 8 → ∃ r : ByteArray, Fn.rootcellarlaw4_sector.l0 (j + 1) x0 x3 (8 - (j : Int)) = some r ∧ r.size = 64
  | 0, x3, h, _ => by
    unfold Fn.rootcellarlaw4_sector.l0
    rw [if_neg (by omega), if_pos (by omega)]
    exact ⟨_, rfl, by simp [strOfNums, ByteArray.size, h]⟩
  | j + 1, x3, h, hj => by
    have w1 : wrap64 (8 * (8 - ((j + 1 : Nat) : Int))) = 8 * (8 - ((j + 1 : Nat) : Int)) := by unfold wrap64; omega
    have w2 : wrap64 (8 - ((j + 1 : Nat) : Int) + 1) = 8 - (j : Int) := by unfold wrap64; omega
    unfold Fn.rootcellarlaw4_sector.l0
    rw [if_pos (by omega), w1, if_pos (by omega), if_pos (by omega), if_pos (by omega), w2]
    exact sector_l x0 j _ (by simpa using h) (by omega)
/-- 64 bytes of a number. -/
def sec (n : Int) : ByteArray := (Fn.rootcellarlaw4_sector.f 9 n).getD ⟨#[]⟩
theorem sec_all (n : Int) : Fn.rootcellarlaw4_sector.f 9 n = some (sec n) ∧ (sec n).size = 64 := by
  obtain ⟨r, h1, h2⟩ := sector_l n 8 (List.replicate 64 0) (by simp) (by omega)
  have h : Fn.rootcellarlaw4_sector.f 9 n = some r := by
    unfold Fn.rootcellarlaw4_sector.f
    rw [if_pos (by decide)]
    exact h1
  have e : sec n = r := by unfold sec; rw [h]; rfl
  rw [e]
  exact ⟨h, h2⟩
theorem sec_size (n : Int) : (sec n).size = 64 := (sec_all n).2
theorem sector_calls (n : Int) (w : World) : Calls Try.prog 13 #[.int .i64 n] w fun e w' => e = .returned (.string (sec n)) ∧ Below w.heap.size w w' := Fn.rootcellarlaw4_sector.calls 9 n _ w (sec_all n).1

/-- the number that a raw one speaks of. -/
def pk (a n : Int) : Int := if a < 0 then Int.tmod (-(a + 1)) n else Int.tmod a n
theorem pick_calls (a n : Int) (w : World) (h0 : -9223372036854775808 ≤ a) (hn : 0 < n) : Calls Try.prog 11 #[.int .i64 a, .int .i64 n] w fun e w' => e = .returned (.int .i64 (pk a n)) ∧ Drawn0 w w' := by
  refine Fn.rootcellarlaw4_pick.calls a n _ w ?_
  unfold Fn.rootcellarlaw4_pick.f pk
  have hz : ¬ n = 0 := by omega
  by_cases ha : a < 0
  · have w1 : wrap64 (a + 1) = a + 1 := by unfold wrap64; omega
    have w2 : wrap64 (-(a + 1)) = -(a + 1) := by unfold wrap64; omega
    rw [if_pos ha, if_neg hz, w1, w2, if_pos ha]
  · rw [if_neg ha, if_neg hz, if_neg ha]
theorem pk_range (a n : Int) (hn : 0 < n) : 0 ≤ pk a n ∧ pk a n < n := by
  unfold pk
  split
  · exact ⟨Int.tmod_nonneg _ (by omega), Int.tmod_lt_of_pos _ hn⟩
  · exact ⟨Int.tmod_nonneg _ (by omega), Int.tmod_lt_of_pos _ hn⟩

/-- can acts be gone through? -/
def isSmall (l : List Fn.S33) : Bool := decide (l.length ≤ 60) && l.all (fun x => decide (x.f3.length ≤ 100))
theorem small_l (l : List Fn.S33) (hl : l.length ≤ 60) : ∀ (j : Nat), j ≤ l.length → Fn.rootcellarlaw4_small.l0 (j + 1) l ((l.length : Int) - j) = some ((l.drop (l.length - j)).all (fun x => decide (x.f3.length ≤ 100)))
  | 0, _ => by
    unfold Fn.rootcellarlaw4_small.l0
    rw [if_neg (by omega)]
    simp
  | j + 1, hj => by
    have hlt : l.length - (j + 1) < l.length := by omega
    have e : ((l.length : Int) - ((j + 1 : Nat) : Int)).toNat = l.length - (j + 1) := by omega
    have w2 : wrap64 ((l.length : Int) - ((j + 1 : Nat) : Int) + 1) = (l.length : Int) - (j : Int) := by unfold wrap64; omega
    unfold Fn.rootcellarlaw4_small.l0
    rw [if_pos (by omega), if_pos (by omega), w2, small_l l hl j (by omega), List.drop_eq_getElem_cons hlt, List.all_cons]
    have hr : Fn.rd_T33 l ((l.length : Int) - ((j + 1 : Nat) : Int)) = l[l.length - (j + 1)] := by
      unfold Fn.rd_T33
      rw [e]
      simp [List.getD, hlt]
    rw [hr, show l.length - (j + 1) + 1 = l.length - j by omega]
    by_cases hc : ((l[l.length - (j + 1)].f3.length : Nat) : Int) > 100
    · rw [if_pos hc]
      have : decide (l[l.length - (j + 1)].f3.length ≤ 100) = false := decide_eq_false (by omega)
      rw [this]; rfl
    · rw [if_neg hc]
      have : decide (l[l.length - (j + 1)].f3.length ≤ 100) = true := decide_eq_true (by omega)
      rw [this]; rfl
theorem small_calls (A : Option Addr) (c : Nat) (l : List Fn.S33) (w : World) (hr : Kd.C Fn.k33 w A l.length l) (hc : l.length ≤ c) : Calls Try.prog 9 #[.slice A l.length c] w fun e w' => e = .returned (.bool (isSmall l)) ∧ Drawn0 w w' := by
  refine Fn.rootcellarlaw4_small.calls (l.length + 1) A c l _ w hr hc ?_
  unfold Fn.rootcellarlaw4_small.f isSmall
  by_cases hl : (l.length : Int) > 60
  · rw [if_pos hl, decide_eq_false (by omega : ¬ l.length ≤ 60)]; rfl
  · rw [if_neg hl, decide_eq_true (by omega : l.length ≤ 60)]
    have := small_l l (by omega) l.length (Nat.le_refl _)
    simpa using this

section
variable {W : World} {b : Nat} {L : List (Nat × Dev)}
theorem stepW (h : Devs W b L) (i : Nat) {g : Nat} {D D' : Dev} {at_ : Int} {s : ByteArray} {e : Int} (hi : L[i]? = some (g, D)) (hb : b ≤ W.heap.size) (hw : D.write at_ s = (e, D')) (hp : D.pend.length ≤ 1000000) :
    Calls Try.prog 12 #[.pointer (some ⟨g, 0, none⟩), .int .i64 at_, .string s] W fun r W1 => r = .returned (.int .i64 e) ∧ Devs W1 b (L.set i (g, D')) ∧ Fr b W W1 := by
  have := dWrite h i hi hb hp at_ s
  rwa [hw] at this
theorem stepF (h : Devs W b L) (i : Nat) {g : Nat} {D D' : Dev} {e : Int} (hi : L[i]? = some (g, D)) (hb : b ≤ W.heap.size) (hw : D.flush = (e, D')) (hp : D.pend.length ≤ 1000000) :
    Calls Try.prog 14 #[.pointer (some ⟨g, 0, none⟩)] W fun r W1 => r = .returned (.int .i64 e) ∧ Devs W1 b (L.set i (g, D')) ∧ Fr b W W1 := by
  have := dFlush h i hi hb hp
  rwa [hw] at this
end
theorem odd1 : odd 1 = true := by unfold odd; decide
def mk (now last : List ByteArray) (pend : List (Int × ByteArray)) (left : Int) (down : Bool) : Dev := ⟨now, last, pend, left, down⟩
end Go.Proofs.Ytakpedenoocmpaa.Dv
