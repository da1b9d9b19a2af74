import Derived.Test.YtakpedenoocmpaaDvLast
/-! DevOrder's plain part, and a row of numbers of the call's own beside devices. -/
namespace Go.Proofs.Ytakpedenoocmpaa.Dv
open Go.RowKit Go.Proofs.YtakpedenoocmpaaW.PrintWords Go.Proofs.YtakpedenoocmpaaW.PrintLast Go.Proofs.YtakpedenoocmpaaW.PrintMore
set_option linter.unusedVariables false
set_option linter.unusedSimpArgs false

/-- A device of n sectors, not armed, behind some writes. -/
def wrote (last : List ByteArray) (p : List (Int × ByteArray)) : Dev := ⟨laid last p, last, p, -1, false⟩
theorem wrote_fresh (n : Nat) : Dev.fresh n = wrote (List.replicate n blankS) [] := rfl
theorem wrote_write (last : List ByteArray) (p : List (Int × ByteArray)) (k : Int) (h0 : 0 ≤ k) (h1 : k < last.length) (q : Int) : (wrote last p).write k (sec q) = (0, wrote last (p ++ [(k, sec q)])) := by
  have hl : (laid last p).length = last.length := laid_length p last
  have hw : (wrote last p).wrong k = 0 := by
    unfold Dev.wrong
    rw [if_neg (by simp [wrote]), if_neg (by omega), if_neg (by show ¬ ((laid last p).length : Int) ≤ k; rw [hl]; omega)]
  have hs : (wrote last p).spend = (0, wrote last p) := by unfold Dev.spend; rw [if_neg (by simp [wrote]), if_neg (by simp [wrote])]
  unfold Dev.write
  rw [if_pos hw, if_pos (sec_size q), hs, if_pos rfl]
  simp [Dev.put, wrote, laid_append]
  rfl
theorem wrote_read (last : List ByteArray) (p : List (Int × ByteArray)) (k : Int) (h0 : 0 ≤ k) (h1 : k < last.length) : (wrote last p).wrong k = 0 := by
  have hl : (laid last p).length = last.length := laid_length p last
  unfold Dev.wrong
  rw [if_neg (by simp [wrote]), if_neg (by omega), if_neg (by show ¬ ((laid last p).length : Int) ≤ k; rw [hl]; omega)]
/-- what is written, act by act, at n sectors. -/
def opsOf (n : Int) (l : List Fn.S33) : List (Int × ByteArray) := l.map fun x => (pk x.f1 n, sec x.f2)
theorem opsOf_succ (n : Int) (l : List Fn.S33) (i : Nat) (h : i < l.length) : (opsOf n l).take (i + 1) = (opsOf n l).take i ++ [(pk (Fn.rd_T33 l (i : Int)).f1 n, sec (Fn.rd_T33 l (i : Int)).f2)] := by
  rw [List.take_add_one]
  have e : (opsOf n l)[i]? = some (pk (Fn.rd_T33 l (i : Int)).f1 n, sec (Fn.rd_T33 l (i : Int)).f2) := by
    simp [opsOf, Fn.rd_T33, List.getD, h]
  rw [e]
  rfl
theorem kept_ones : ∀ (ps : List (Int × ByteArray)) (n : Nat), keptOf ps (List.replicate n 1) = ps.take n
  | [], n => by cases n <;> simp [keptOf, List.replicate]
  | p :: ps, 0 => by simp [keptOf]
  | p :: ps, n + 1 => by
    simp only [List.replicate_succ, keptOf, odd1, if_true, List.take_succ_cons]
    rw [kept_ones ps n]
theorem wrote_power (last : List ByteArray) (p : List (Int × ByteArray)) (n : Nat) : (wrote last p).power (List.replicate n 1) = ⟨laid last (p.take n), laid last (p.take n), [], -1, false⟩ := by
  simp [Dev.power, wrote, kept_ones]

/-- A device of which all that is laid is kept. -/
def flat (last : List ByteArray) : Dev := ⟨last, last, [], -1, false⟩
theorem wrote_power' (last : List ByteArray) (p : List (Int × ByteArray)) (n : Nat) : (wrote last p).power (List.replicate n 1) = flat (laid last (p.take n)) := wrote_power last p n
theorem wrote_get (last : List ByteArray) (p : List (Int × ByteArray)) (k : Nat) (h : k < last.length) : (if (wrote last p).wrong (k : Int) = 0 then rdOf ByteArray.empty (wrote last p).now (k : Int) else ⟨#[]⟩) = rdOf ByteArray.empty (laid last p) (k : Int) ∧ (wrote last p).wrong (k : Int) = 0 := by
  have h1 := wrote_read last p (k : Int) (by omega) (by omega)
  rw [if_pos h1]
  exact ⟨rfl, h1⟩
theorem flat_get (last : List ByteArray) (k : Nat) (h : k < last.length) : (if (flat last).wrong (k : Int) = 0 then rdOf ByteArray.empty (flat last).now (k : Int) else ⟨#[]⟩) = rdOf ByteArray.empty last (k : Int) ∧ (flat last).wrong (k : Int) = 0 := wrote_get last [] k h

/-- A row of numbers of the call's own. -/
def Own (W : World) (b : Nat) (v : Value) (xs : List Int) : Prop := (Kd.int .i64).R 3 W b (fun _ => True) v xs
section
variable {W W1 : World} {b : Nat} {v : Value} {xs : List Int} {L : List (Nat × Dev)}
theorem Own.step (h : Own W b v xs) (hs : ∀ (k : Nat) (cells : Array Value), W.heap[k]? = some (Obj.cells cells 3 (0, 0)) → W1.heap[k]? = W.heap[k]?) : Own W1 b v xs := by
  refine Kd.R_mono (Kd.R_move (Kd.R_bound h) (fun k hk => ?_)) (fun _ _ => trivial)
  obtain ⟨_, _, _, q, hq, cells, hc⟩ := hk
  have hq3 : q = 3 := by
    rcases List.mem_cons.1 hq with h | h
    · exact h
    · exact absurd h List.not_mem_nil
  subst hq3
  exact hs k cells hc
theorem Own.fr (h : Own W b v xs) (hF : Fr b W W1) : Own W1 b v xs := h.step (fun k cells hc => hF.kept k cells 3 (0, 0) hc (by unfold Dt; omega))
theorem Own.below (h : Own W b v xs) (hb : Below W.heap.size W W1) : Own W1 b v xs := Kd.R_below h hb
theorem Own.drewN (h : Own W b v xs) (n : Nat) : Own (W.drewN n) b v xs := Kd.R_drewN h n
theorem Own.slice (h : Own W b v xs) : ∃ A c, v = .slice A xs.length c := Kd.R_slice h
theorem Own.reads {A : Option Addr} {n c : Nat} (h : Own W b (.slice A n c) xs) : (Kd.int .i64).C W A xs.length xs := by
  have := Kd.R_reads' h
  rw [this.1] at this
  exact this.2.2
theorem Devs.grown (h : Devs W b L) (hO : Own W b v xs) (hg : W.grownBy W1 v.ownBlock) : Devs W1 b L := by
  refine h.step (fun k t cells ht hc _ => hg.block k (blk_lt hc) (fun e => ?_))
  obtain ⟨cells', hc'⟩ := Kd.R_typed hO k e.symm
  rw [hc] at hc'
  injection hc' with hc'
  injection hc' with _ hc' _
  have h3 : Dt 3 := hc' ▸ ht
  unfold Dt at h3
  omega
end
end Go.Proofs.Ytakpedenoocmpaa.Dv
