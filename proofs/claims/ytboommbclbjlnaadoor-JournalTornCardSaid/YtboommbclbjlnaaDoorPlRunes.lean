/- Plain: the runes of a list of bytes, one after the other, by the model's own decoder; no program in sight. -/
import Derived.Lib.ValidU
import Derived.Lib.ValidLaws
import Derived.Lib.MapLaws
import Derived.Lib.TrimUEq
namespace Go.Proofs.YtboommbclbjlnaaDoor.Pl
open Go.Lib
/-- What a text is cut into: each rune's number (65533, one byte wide: a wrong byte) and its bytes. -/
def runesGo : Nat → List UInt8 → List (Nat × Nat)
  | 0, _ => []
  | n + 1, l => if l = [] then [] else decodeL l :: runesGo n (l.drop (decodeL l).2)
def runes (l : List UInt8) : List (Nat × Nat) := runesGo l.length l
theorem runesGo_nil (n : Nat) : runesGo n [] = [] := by cases n <;> simp [runesGo]
theorem drop_short (l : List UInt8) (h : l ≠ []) : (l.drop (decodeL l).2).length < l.length := by
  have h1 := decodeL_width l
  have h2 : 0 < l.length := List.length_pos_iff.2 h
  rw [List.length_drop]
  omega
theorem runesGo_fuel : ∀ (n m : Nat) (l : List UInt8), l.length ≤ n → l.length ≤ m → runesGo n l = runesGo m l
  | 0, m, l, h, _ => by
    obtain rfl : l = [] := List.eq_nil_of_length_eq_zero (by omega)
    rw [runesGo_nil, runesGo_nil]
  | n + 1, 0, l, _, h => by
    obtain rfl : l = [] := List.eq_nil_of_length_eq_zero (by omega)
    rw [runesGo_nil, runesGo_nil]
  | n + 1, m + 1, l, h, k => by
    by_cases e : l = []
    · subst e; rw [runesGo_nil, runesGo_nil]
    · have hs := drop_short l e
      simp only [runesGo, e, if_false]
      rw [runesGo_fuel n m _ (by omega) (by omega)]
theorem runes_nil : runes [] = [] := rfl
theorem runes_cons (l : List UInt8) (h : l ≠ []) : runes l = decodeL l :: runes (l.drop (decodeL l).2) := by
  have hs := drop_short l h
  unfold runes
  obtain ⟨n, hn⟩ : ∃ n, l.length = n + 1 := ⟨l.length - 1, by have := List.length_pos_iff.2 h; omega⟩
  rw [hn]
  simp only [runesGo, h, if_false]
  rw [runesGo_fuel n _ _ (by omega) (Nat.le_refl _)]
theorem runes_le (l : List UInt8) : (runes l).length ≤ l.length := by
  induction hn : l.length using Nat.strongRecOn generalizing l with
  | _ n ih =>
    by_cases e : l = []
    · subst e; simp [runes_nil]
    · have hs := drop_short l e
      rw [runes_cons l e, List.length_cons]
      have := ih (l.drop (decodeL l).2).length (by omega) (l.drop (decodeL l).2) rfl
      omega
/-- Is a rune one that a name may have? -/
def fine (r : Nat × Nat) : Bool := decide (32 ≤ r.1) && !(r.1 == 127)
def rightB (l : List UInt8) : Bool :=
  (runes l).all fine && (validD l && (!l.isEmpty && (decide ((runes l).length ≤ 24) && ((!(l.headD 0).toNat == 32) && !((l.getLastD 0).toNat == 32)))))
end Go.Proofs.YtboommbclbjlnaaDoor.Pl
