import Derived.Test.YtakpedenoocmpaaDvOps1
/-! forget: clear, and cut to nothing. -/
namespace Go.Proofs.Ytakpedenoocmpaa.Dv
open Go.RowKit Go.Proofs.YtakpedenoocmpaaW.PrintWords Go.Proofs.YtakpedenoocmpaaW.PrintLast Go.Proofs.YtakpedenoocmpaaW.PrintMore
attribute [local go_sem] max2_int min2_int max_two min_two max_three min_three max_four min_four
set_option linter.unusedVariables false
set_option linter.unusedSimpArgs false

section
variable {W : World} {b g : Nat} {F : Nat → Prop} {D : Dev}
def zW : Value := .agg #[.int .i64 0, .string ⟨#[]⟩]
theorem infoW : (Try.prog.info? 62).map (fun i => (i.zero, i.size, i.bytes)) = some (some zW, 2, 24) := by kernel_rfl
theorem infoS : (Try.prog.info? 9).map (fun i => (i.zero, i.size, i.bytes)) = some (some (.string ⟨#[]⟩), 1, 16) := by kernel_rfl
theorem zeroW (w : World) : (zeroValue 62).run Try.prog w = .ok zW w := by
  have h := infoW
  cases hq : Try.prog.info? 62 with
  | none => simp [hq] at h
  | some i =>
    simp only [hq, Option.map_some, Option.some.injEq, Prod.mk.injEq] at h
    simp [zeroValue, typeInfo, hq, h.1]
theorem zcells_len (n : Nat) : (Builtin.zeroCells zW.cells n).toList.length = n * 2 := by
  have h : zW.cells.size = 2 := rfl
  simp [Builtin.zeroCells, h]
theorem zcells_one (n : Nat) : ∀ v ∈ (Builtin.zeroCells zW.cells n).toList, v.oneCell' = true := by
  intro v hv
  have h : zW.cells.size = 2 := rfl
  have hz : zW.cells = #[.int .i64 0, .string ⟨#[]⟩] := rfl
  simp only [Builtin.zeroCells, h, Array.toList_map, List.mem_map] at hv
  obtain ⟨i, _, rfl⟩ := hv
  rw [hz]
  have : i % 2 = 0 ∨ i % 2 = 1 := by omega
  rcases this with h | h <;> rw [h] <;> rfl
/-- clear(pending). -/
theorem clear_law {A : Option Addr} {n c : Nat} {xs : List (Int × ByteArray)} (h : kW.R 62 W b F (.slice A n c) xs) :
    ∃ W1, (∀ ty, (Builtin.clear_ #[57] ty #[.slice A n c]).run Try.prog W = .ok (.tuple #[]) W1) ∧ kW.R 62 W1 b F (.slice A 0 c) [] ∧ W.grownBy W1 (Value.slice A n c).ownBlock := by
  obtain ⟨h0, inner, ⟨hl, ho⟩, hr⟩ := h
  rcases ho with ⟨hv, _⟩ | ⟨g3, cap, cur, hv, hge, hb, hnc, hcm, hcs, ht⟩
  · injection hv with hA hn hc
    subst hA; subst hn; subst hc
    exact ⟨W, fun ty => by simp [Builtin.clear_, run_underlying (P := Try.prog) Try.underlying57], Kd.R_nil _ _ _ _ _, grown_of_below (Below.refl _ _) _⟩
  · injection hv with hA hn hc
    subst hA; subst hc
    have hcut : ∀ W1 (cur' : Array Value), W1.heap[g3]? = some (.cells cur' 62 (0, 0)) → cur'.size = c * 2 → kW.R 62 W1 b F (.slice (some ⟨g3, 0, none⟩) 0 c) [] := fun W1 cur' hb' hs' =>
      ⟨fun k hk => h0 k hk, [], ⟨rfl, .inr ⟨g3, c, cur', rfl, hge, hb', Nat.zero_le _, hcm, hs', by simp⟩⟩, Reps.none _ _⟩
    replace hcs : cur.size = c * 2 := hcs
    cases n with
    | zero => exact ⟨W, fun ty => by simp [Builtin.clear_, run_underlying (P := Try.prog) Try.underlying57], hcut W cur hb hcs, grown_of_below (Below.refl _ _) _⟩
    | succ m =>
      have hfit : 0 + 0 + (Builtin.zeroCells zW.cells (m + 1)).toList.length ≤ cur.size := by
        rw [zcells_len, hcs]
        have : (m + 1) * 2 ≤ c * 2 := Nat.mul_le_mul_right _ (by omega)
        omega
      have hst := run_storeCells_at Try.prog g3 0 62 (Builtin.zeroCells zW.cells (m + 1)).toList 0 cur W hb hfit (zcells_one _)
      have hlen := zcells_len (m + 1)
      obtain ⟨Z, hZ⟩ : ∃ Z, Z = (Builtin.zeroCells zW.cells (m + 1)).toList := ⟨_, rfl⟩
      rw [← hZ] at hst hlen hfit
      have hZ' : (Builtin.zeroCells (Value.agg #[.int .i64 0, .string ⟨#[]⟩]).cells (m + 1)).toList = Z := hZ.symm
      have hZ2 : (Builtin.zeroCells zW.cells (m + 1)).toList = Z := hZ.symm
      refine ⟨_, fun ty => by simp only [Builtin.clear_, Sem.run_bind, Sem.run_pure, Result.andThen_ok, run_underlying (P := Try.prog) Try.underlying57, zeroW, hZ2, hst, List.getElem?_toArray, List.getElem?_cons_zero]; rfl, ?_, ?_⟩
      · refine hcut _ _ (setRow_heap W g3 cur _ 62 _ hb) ?_
        simp
        omega
      · exact ⟨rfl, rfl, rfl, by simp, fun k hk hne => setRow_other W g3 k _ (fun e => hne (by rw [e]; rfl))⟩

theorem Op.cut {g1 c1 g2 c2 : Nat} {A : Option Addr} {n c : Nat} (h : Op W b F g D g1 c1 g2 c2 (.slice A n c)) {W1 : World} (h1 : kW.R 62 W1 b F (.slice A 0 c) []) (hg : W.grownBy W1 (Value.slice A n c).ownBlock) :
    Op (W1.setCell ⟨g, 2, none⟩ (.slice A 0 c)) b F g { D with pend := [] } g1 c1 g2 c2 (.slice A 0 c) := by
  have hb := (hg.block g (blk_lt h.blk) h.ne3).trans h.blk
  obtain ⟨cs1, hk1⟩ := h.blk1
  obtain ⟨cs2, hk2⟩ := h.blk2
  have hm : ∀ k, (some k ≠ (Value.slice A n c).ownBlock) → k < W.heap.size → W1.heap[k]? = W.heap[k]? := fun k hk hl => hg.block k hl hk
  have e1 : Kd.string.R 9 W1 b F (.slice (some ⟨g1, 0, none⟩) D.now.length c1) D.now := Kd.R_mono (Kd.R_step (Kd.R_tight rfl h.now) (fun k hk hl => hm k (by rw [show k = g1 by simpa [Value.ownBlock] using hk]; exact h.ne13) hl)) (fun k hk => h.now.1 k hk.symm)
  have e2 : Kd.string.R 9 W1 b F (.slice (some ⟨g2, 0, none⟩) D.last.length c2) D.last := Kd.R_mono (Kd.R_step (Kd.R_tight rfl h.last) (fun k hk hl => hm k (by rw [show k = g2 by simpa [Value.ownBlock] using hk]; exact h.ne23) hl)) (fun k hk => h.last.1 k hk.symm)
  exact ⟨by simpa using blk_set hb 2 (.slice A 0 c), h.ge, h.mem, Kd.R_set e1 hb (by decide) 2 _, Kd.R_set e2 hb (by decide) 2 _, Kd.R_set h1 hb (by decide) 2 _, h.ne,
    ⟨h.ok.len, h.ok.pos, h.ok.small, fun p hp => by simp at hp, h.ok.left0, h.ok.left1⟩⟩

set_option maxHeartbeats 8000000 in
set_option maxRecDepth 100000 in
theorem forget_calls (h : IsDev W b F g D) : Calls Try.prog 29 #[.pointer (some ⟨g, 0, none⟩)] W fun e W' => e = .returned (.tuple #[]) ∧ Moved W W' b F g { D with pend := [] } := by
  obtain ⟨g1, c1, g2, c2, v3, h⟩ := h
  obtain ⟨A, c, rfl⟩ := Kd.R_slice h.pend
  obtain ⟨W1, hcl, hR, hg⟩ := clear_law h.pend
  have hb := (hg.block g (blk_lt h.blk) h.ne3).trans h.blk
  have h2 := h.cell2
  have h2' : W1.cell? ⟨g, 2, none⟩ = some (.slice A D.pend.length c) := (blk_cell hb 2).trans rfl
  have f2' : W1.frozen? ⟨g, 2, none⟩ = false := blk_frozen hb 2
  have hle := (Kd.R_reads' h.pend).2.1
  have HO := Aside0.mk (h.cut hR hg)
  have HF := Aside0.mk h.F3
  have HG := Aside0.mk hg
  have HM := h.mem
  clear h hR hg hb
  go_enter Try.func29, Try.ntmps29
  go_wp2
  all_goals first | go_end0 | ((try simp only [Exit.inBlock, Exit.then]); refine bodyPost_ret (results_none rfl _ _ _) rfl ?_)
  exact ⟨rfl, Moved.same HO.out.is (((Mv.refl _ _).grown HG.out (fun k hk => .inl (HF.out k hk))).setCell (.inl HM) _)⟩
end
end Go.Proofs.Ytakpedenoocmpaa.Dv
