import Derived.Test.YtakpedenoocmpaaDvOrder0
/-! DevEither's plain part. -/
namespace Go.Proofs.Ytakpedenoocmpaa.Dv
open Go.RowKit Go.Proofs.YtakpedenoocmpaaW.PrintWords Go.Proofs.YtakpedenoocmpaaW.PrintLast Go.Proofs.YtakpedenoocmpaaW.PrintMore
set_option linter.unusedVariables false
set_option linter.unusedSimpArgs false

theorem wrote_flush (last : List ByteArray) (p : List (Int × ByteArray)) : (wrote last p).flush = (0, wrote (laid last p) []) := by
  have hs : (wrote last p).spend = (0, wrote last p) := by unfold Dev.spend; rw [if_neg (by simp [wrote]), if_neg (by simp [wrote])]
  unfold Dev.flush
  rw [if_neg (by simp [wrote]), hs, if_pos rfl]
  rfl
theorem wrote_pow (last : List ByteArray) (p : List (Int × ByteArray)) (keep : List Int) : (wrote last p).power keep = flat (laid last (keptOf p keep)) := rfl
/-- a sector behind some writes: what it had, or what one of them wrote. -/
theorem laid_get (a : Int) : ∀ (p : List (Int × ByteArray)) (l : List ByteArray), (∀ q, q ∈ p → 0 ≤ q.1) → 0 ≤ a → rdOf ByteArray.empty (laid l p) a = rdOf ByteArray.empty l a ∨ ∃ q, q ∈ p ∧ q.1 = a ∧ rdOf ByteArray.empty (laid l p) a = q.2
  | [], l, _, _ => .inl rfl
  | q :: p, l, hp, ha => by
    have e : laid l (q :: p) = laid (l.set q.1.toNat q.2) p := rfl
    rw [e]
    rcases laid_get a p (l.set q.1.toNat q.2) (fun x hx => hp x (List.mem_cons_of_mem _ hx)) ha with h | ⟨x, hx, h1, h2⟩
    · rw [h]
      have hq := hp q List.mem_cons_self
      by_cases hqa : q.1.toNat = a.toNat
      · by_cases hl : a.toNat < l.length
        · refine .inr ⟨q, List.mem_cons_self, by omega, ?_⟩
          simp [rdOf, List.getD, hqa, hl]
        · refine .inl ?_
          simp [rdOf, List.getD, hl]
      · refine .inl ?_
        simp only [rdOf, List.getD]
        rw [List.getElem?_set_ne hqa]
    · exact .inr ⟨x, List.mem_cons_of_mem _ hx, h1, h2⟩
/-- the law's search. -/
def found (s : ByteArray) (a : Int) (t : Bool) (l : List Fn.S33) : Bool := t || l.any (fun x => decide (pk x.f1 5 = a) && (s.toList == (sec x.f2).toList))
theorem found_nil (s : ByteArray) (a : Int) (t : Bool) : found s a t [] = t := by simp [found]
theorem found_all (L : List ByteArray) (k : List Fn.S33) (keep : List Int) (a : Int) (ha : 0 ≤ a) :
    found (rdOf ByteArray.empty (laid L (keptOf (opsOf 5 k) keep)) a) a ((rdOf ByteArray.empty (laid L (keptOf (opsOf 5 k) keep)) a).toList == (rdOf ByteArray.empty L a).toList) k = true := by
  have hm : ∀ q, q ∈ keptOf (opsOf 5 k) keep → ∃ x, x ∈ k ∧ q = (pk x.f1 5, sec x.f2) := fun q hq => by
    obtain ⟨x, hx, e⟩ := List.mem_map.1 (keptOf_mem _ _ _ hq)
    exact ⟨x, hx, e.symm⟩
  unfold found
  rcases laid_get a (keptOf (opsOf 5 k) keep) L (fun q hq => by obtain ⟨x, _, rfl⟩ := hm q hq; exact (pk_range x.f1 5 (by decide)).1) ha with h | ⟨q, hq, h1, h2⟩
  · rw [h, beq_self_eq_true, Bool.true_or]
  · obtain ⟨x, hx, rfl⟩ := hm q hq
    rw [Bool.or_eq_true]
    exact .inr (List.any_eq_true.2 ⟨x, hx, by rw [decide_eq_true h1, h2, beq_self_eq_true]; rfl⟩)
theorem found_succ (s : ByteArray) (a : Int) (t : Bool) (k : List Fn.S33) (i : Nat) (h : i < k.length) :
    found s a t (k.take (i + 1)) = (found s a t (k.take i) || (decide (pk (Fn.rd_T33 k (i : Int)).f1 5 = a) && (s.toList == (sec (Fn.rd_T33 k (i : Int)).f2).toList))) := by
  have e : k[i]? = some (Fn.rd_T33 k (i : Int)) := by simp [Fn.rd_T33, List.getD, h]
  unfold found
  rw [List.take_add_one, e, Option.toList_some, List.any_append]
  simp [Bool.or_assoc]
theorem Devs.drawn {W W1 : World} {b : Nat} {L : List (Nat × Dev)} (h : Devs W b L) (hd : Drawn0 W W1) : Devs W1 b L := by
  obtain ⟨n, rfl⟩ := hd
  exact h.drewN n
theorem below_drawn {W0 W W1 : World} {b : Nat} (h : Below b W0 W) (hd : Drawn0 W W1) : Below b W0 W1 := by
  obtain ⟨n, rfl⟩ := hd
  exact pw_below_drewN h n
theorem Own.drawn {W W1 : World} {b : Nat} {v : Value} {xs : List Int} (h : Own W b v xs) (hd : Drawn0 W W1) : Own W1 b v xs := by
  obtain ⟨n, rfl⟩ := hd
  exact h.drewN n
end Go.Proofs.Ytakpedenoocmpaa.Dv
