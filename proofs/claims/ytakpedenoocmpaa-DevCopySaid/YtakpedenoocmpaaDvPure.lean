import Derived.Test.YtakpedenoocmpaaDvBase
/-! What the device's functions do, on plain data. -/
namespace Go.Proofs.Ytakpedenoocmpaa.Dv
open Go.RowKit
set_option linter.unusedVariables false
set_option linter.unusedSimpArgs false

def Dev.wrong (D : Dev) (at_ : Int) : Int := if D.down = true then 8 else if at_ < 0 then 11 else if (D.now.length : Int) ≤ at_ then 11 else 0
def Dev.spend (D : Dev) : Int × Dev := if D.left = 0 then (8, { D with down := true }) else if 0 < D.left then (0, { D with left := D.left - 1 }) else (0, D)
def Dev.put (D : Dev) (at_ : Int) (s : ByteArray) : Dev := { D with now := D.now.set at_.toNat s, pend := D.pend ++ [(at_, s)] }
def Dev.write (D : Dev) (at_ : Int) (s : ByteArray) : Int × Dev :=
  if D.wrong at_ = 0 then (if s.size = 64 then (if D.spend.1 = 0 then (0, D.spend.2.put at_ s) else D.spend) else (1, D)) else (D.wrong at_, D)
/-- the pending writes, laid over the sectors of the last flush. -/
def laid (l : List ByteArray) (p : List (Int × ByteArray)) : List ByteArray := p.foldl (fun l w => l.set w.1.toNat w.2) l
def Dev.flush (D : Dev) : Int × Dev :=
  if D.down = true then (8, D) else if D.spend.1 = 0 then (0, { D.spend.2 with last := laid D.last D.pend, pend := [] }) else D.spend
def Dev.arm (D : Dev) (n : Int) : Dev := { D with left := if n < -1 then -1 else n }
/-- those of the pending writes that are kept. -/
def odd (x : Int) : Bool := decide (0 < Go.bits .and .i64 x 1)
def keptOf : List (Int × ByteArray) → List Int → List (Int × ByteArray)
  | p :: ps, k :: ks => if odd k = true then p :: keptOf ps ks else keptOf ps ks
  | _, _ => []
def Dev.power (D : Dev) (keep : List Int) : Dev :=
  { now := laid D.last (keptOf D.pend keep), last := laid D.last (keptOf D.pend keep), pend := [], left := -1, down := false }
def Dev.fresh (n : Nat) : Dev := { now := List.replicate n ⟨(List.replicate 64 0).toArray⟩, last := List.replicate n ⟨(List.replicate 64 0).toArray⟩, pend := [], left := -1, down := false }

theorem laid_length (p : List (Int × ByteArray)) : ∀ l, (laid l p).length = l.length := by
  induction p with
  | nil => intro l; rfl
  | cons q p ih => intro l; exact (ih _).trans (by simp)
theorem laid_append (p q : List (Int × ByteArray)) (l : List ByteArray) : laid l (p ++ q) = laid (laid l p) q := by simp [laid, List.foldl_append]
theorem keptOf_mem : ∀ (p : List (Int × ByteArray)) (k : List Int) x, x ∈ keptOf p k → x ∈ p
  | [], _, x, h => by simp [keptOf] at h
  | _ :: _, [], x, h => by simp [keptOf] at h
  | p :: ps, k :: ks, x, h => by
    unfold keptOf at h
    split at h
    · rcases List.mem_cons.1 h with rfl | h
      · exact List.mem_cons_self
      · exact List.mem_cons_of_mem _ (keptOf_mem ps ks x h)
    · exact List.mem_cons_of_mem _ (keptOf_mem ps ks x h)

theorem Dev.Ok.spend {D : Dev} (h : D.Ok) : D.spend.2.Ok := by
  unfold Dev.spend
  split
  · exact ⟨h.len, h.pos, h.small, h.at_, h.left0, h.left1⟩
  · split
    · exact ⟨h.len, h.pos, h.small, h.at_, by have := h.left0; show -1 ≤ D.left - 1; omega, by have := h.left1; show D.left - 1 < _; omega⟩
    · exact h
theorem spend_now (D : Dev) : D.spend.2.now = D.now := by unfold Dev.spend; split; rfl; split <;> rfl
theorem spend_last (D : Dev) : D.spend.2.last = D.last := by unfold Dev.spend; split; rfl; split <;> rfl
theorem spend_pend (D : Dev) : D.spend.2.pend = D.pend := by unfold Dev.spend; split; rfl; split <;> rfl
theorem Dev.Ok.put {D : Dev} (h : D.Ok) {at_ : Int} (s : ByteArray) (h0 : 0 ≤ at_) (h1 : at_ < D.now.length) : (D.put at_ s).Ok :=
  ⟨by simp [Dev.put, h.len], by simpa [Dev.put] using h.pos, by simpa [Dev.put] using h.small, by
    intro p hp
    simp only [Dev.put, List.length_set] at hp ⊢
    rcases List.mem_append.1 hp with hp | hp
    · exact h.at_ p hp
    · rw [List.mem_singleton.1 hp]; exact ⟨h0, h1⟩, h.left0, h.left1⟩
theorem wrong_ok {D : Dev} {at_ : Int} (h : D.wrong at_ = 0) : D.down = false ∧ 0 ≤ at_ ∧ at_ < D.now.length := by
  unfold Dev.wrong at h
  split at h
  · cases h
  · rename_i hd
    split at h
    · cases h
    · split at h
      · cases h
      · exact ⟨by simpa using hd, by omega, by omega⟩
theorem Dev.Ok.write {D : Dev} (h : D.Ok) (at_ : Int) (s : ByteArray) : (D.write at_ s).2.Ok := by
  unfold Dev.write
  split
  · rename_i hw
    obtain ⟨_, h0, h1⟩ := wrong_ok hw
    split
    · split
      · exact h.spend.put s h0 (by rw [spend_now]; exact h1)
      · exact h.spend
    · exact h
  · exact h
theorem Dev.Ok.flush {D : Dev} (h : D.Ok) : D.flush.2.Ok := by
  unfold Dev.flush
  split
  · exact h
  · split
    · exact ⟨by show (laid D.last D.pend).length = D.spend.2.now.length; rw [laid_length, spend_now]; exact h.len, by show 0 < D.spend.2.now.length; rw [spend_now]; exact h.pos, by show D.spend.2.now.length ≤ _; rw [spend_now]; exact h.small, fun p hp => by simp at hp, h.spend.left0, h.spend.left1⟩
    · exact h.spend
theorem Dev.Ok.arm {D : Dev} (h : D.Ok) (n : Int) (hn : n < 9223372036854775808) : (D.arm n).Ok :=
  ⟨h.len, h.pos, h.small, h.at_, by show -1 ≤ (if n < -1 then (-1 : Int) else n); split <;> omega, by show (if n < -1 then (-1 : Int) else n) < _; split <;> omega⟩
theorem Dev.Ok.power {D : Dev} (h : D.Ok) (keep : List Int) : (D.power keep).Ok :=
  ⟨rfl, by show 0 < (laid _ _).length; rw [laid_length, h.len]; exact h.pos, by show (laid _ _).length ≤ _; rw [laid_length, h.len]; exact h.small, fun p hp => by simp [Dev.power] at hp, by simp [Dev.power], by simp [Dev.power]⟩
theorem Dev.Ok.fresh {n : Nat} (h0 : 0 < n) (h1 : n ≤ 8192) : (Dev.fresh n).Ok :=
  ⟨rfl, by simpa [Dev.fresh] using h0, by simpa [Dev.fresh] using h1, fun p hp => by simp [Dev.fresh] at hp, by simp [Dev.fresh], by simp [Dev.fresh]⟩
end Go.Proofs.Ytakpedenoocmpaa.Dv
