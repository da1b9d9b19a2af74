/- Plain: clusters, and the runs of those that are not noughts. No program. -/
import Derived.Test.YtfoniidbkbmjeaaDoorPlBytes
namespace Go.Proofs.YtfoniidbkbmjeaaDoor.Pl
open Go
abbrev Cl := List UInt8
def blankC (c : Cl) : Bool := c.all (· == 0)
/-- Runs: where one begins, and its clusters. -/
def runsD : Nat → Nat → List Cl → List (Nat × List Cl)
  | 0, _, _ => []
  | _ + 1, _, [] => []
  | f + 1, i, c :: r => if blankC c then runsD f (i + 1) r else (i, c :: r.takeWhile (fun x => !blankC x)) :: runsD f (i + 1 + (r.takeWhile (fun x => !blankC x)).length) (r.dropWhile (fun x => !blankC x))
/-- As the iterator goes: P clusters are open. -/
def runsO : Nat → List Cl → List Cl → List (Nat × List Cl)
  | f, P, [] => if P = [] then [] else [(f, P)]
  | f, P, c :: r => if blankC c then (if P = [] then [] else [(f, P)]) ++ runsO (f + P.length + 1) [] r else runsO f (P ++ [c]) r
theorem tw_len (r : List Cl) : (r.takeWhile (fun x => !blankC x)).length ≤ r.length := by
  induction r with
  | nil => simp
  | cons c r ih => rw [List.takeWhile_cons]; split <;> simp <;> omega
theorem dw_len (r : List Cl) : (r.dropWhile (fun x => !blankC x)).length ≤ r.length := by
  induction r with
  | nil => simp
  | cons c r ih => rw [List.dropWhile_cons]; split <;> simp <;> omega
theorem runsD_fuel : ∀ (m n i : Nat) (cs : List Cl), cs.length ≤ m → cs.length ≤ n → runsD m i cs = runsD n i cs
  | 0, n, i, cs, h, _ => by
    obtain rfl : cs = [] := List.eq_nil_of_length_eq_zero (by omega)
    cases n <;> rfl
  | m + 1, 0, i, cs, _, h => by
    obtain rfl : cs = [] := List.eq_nil_of_length_eq_zero (by omega)
    rfl
  | m + 1, n + 1, i, [], _, _ => rfl
  | m + 1, n + 1, i, c :: r, h, k => by
    simp only [List.length_cons] at h k
    have := dw_len r
    rw [runsD, runsD, runsD_fuel m n (i + 1) r (by omega) (by omega), runsD_fuel m n _ (r.dropWhile (fun x => !blankC x)) (by omega) (by omega)]
def runsL (i : Nat) (cs : List Cl) : List (Nat × List Cl) := runsD cs.length i cs
theorem runsL_nil (i : Nat) : runsL i [] = [] := rfl
theorem runsL_blank (i : Nat) (c : Cl) (r : List Cl) (h : blankC c = true) : runsL i (c :: r) = runsL (i + 1) r := by
  unfold runsL
  rw [List.length_cons, runsD, if_pos h]
theorem runsL_full (i : Nat) (c : Cl) (r : List Cl) (h : blankC c = false) : runsL i (c :: r) = (i, c :: r.takeWhile (fun x => !blankC x)) :: runsL (i + 1 + (r.takeWhile (fun x => !blankC x)).length) (r.dropWhile (fun x => !blankC x)) := by
  unfold runsL
  rw [List.length_cons, runsD, if_neg (by simp [h]), runsD_fuel r.length _ _ (r.dropWhile (fun x => !blankC x)) (dw_len r) (Nat.le_refl _)]
theorem tw_app (P : List Cl) (h : ∀ c ∈ P, blankC c = false) (r : List Cl) : (P ++ r).takeWhile (fun x => !blankC x) = P ++ r.takeWhile (fun x => !blankC x) ∧ (P ++ r).dropWhile (fun x => !blankC x) = r.dropWhile (fun x => !blankC x) := by
  induction P with
  | nil => simp
  | cons c P ih =>
    obtain ⟨h1, h2⟩ := ih (fun x hx => h x (by simp [hx]))
    have hc := h c (by simp)
    rw [List.cons_append, List.takeWhile_cons, List.dropWhile_cons, if_pos (by simp [hc]), if_pos (by simp [hc]), h1, h2]
    exact ⟨rfl, rfl⟩
theorem runsL_open (f : Nat) (P : List Cl) (h : ∀ c ∈ P, blankC c = false) (hP : P ≠ []) (r : List Cl) : runsL f (P ++ r) = (f, P ++ r.takeWhile (fun x => !blankC x)) :: runsL (f + P.length + (r.takeWhile (fun x => !blankC x)).length) (r.dropWhile (fun x => !blankC x)) := by
  cases P with
  | nil => exact absurd rfl hP
  | cons c P =>
    obtain ⟨h1, h2⟩ := tw_app P (fun x hx => h x (by simp [hx])) r
    rw [List.cons_append, runsL_full f c _ (h c (by simp)), h1, h2]
    simp only [List.length_append, List.length_cons, List.cons_append]
    congr 2
    omega
theorem runsO_eq : ∀ (cs : List Cl) (f : Nat) (P : List Cl), (∀ c ∈ P, blankC c = false) → runsO f P cs = runsL f (P ++ cs)
  | [], f, P, h => by
    unfold runsO
    by_cases e : P = []
    · subst e; rfl
    · rw [if_neg e, runsL_open f P h e []]
      simp [runsL_nil]
  | c :: r, f, P, h => by
    unfold runsO
    by_cases b : blankC c = true
    · rw [if_pos b, runsO_eq r _ [] (by simp), List.nil_append]
      by_cases e : P = []
      · subst e
        rw [if_pos rfl, List.nil_append, List.nil_append, runsL_blank f c r b]
        rfl
      · rw [if_neg e, runsL_open f P h e (c :: r), List.takeWhile_cons, List.dropWhile_cons, if_neg (by simp [b]), if_neg (by simp [b]), List.append_nil, runsL_blank _ c r b]
        rfl
    · have hb : blankC c = false := by simpa using b
      rw [if_neg b, runsO_eq r f (P ++ [c]) (by
        intro x hx
        rcases List.mem_append.1 hx with hx | hx
        · exact h x hx
        · rw [List.mem_singleton.1 hx]; exact hb)]
      simp
end Go.Proofs.YtfoniidbkbmjeaaDoor.Pl
