import Derived.Test.YtakpedenoocmpaaDvRep
/-! The reference's device: what its blocks hold. -/
namespace Go.Proofs.Ytakpedenoocmpaa.Rf
open Go.RowKit Go.Proofs.YtakpedenoocmpaaW.PrintWords Go.Proofs.YtakpedenoocmpaaW.PrintLast Go.Proofs.YtakpedenoocmpaaW.PrintMore
open Go.Proofs.Ytakpedenoocmpaa.Dv (Dev kW kW_E kW_sz kW_mk kW_open Mv)
set_option linter.unusedVariables false
set_option linter.unusedSimpArgs false

/-- The types of a device of the reference: its own, a sector's, a write's. -/
def Rt (t : Nat) : Prop := t = 66 ∨ t = 9 ∨ t = 80

/-- Block g of W is device D; its blocks are F's, all from b on. -/
structure Op (W : World) (b : Nat) (F : Nat → Prop) (g : Nat) (D : Dev) (g1 c1 g2 c2 : Nat) (v3 : Value) : Prop where
  blk : W.heap[g]? = some (.cells #[.slice (some ⟨g1, 0, none⟩) D.now.length c1, .slice (some ⟨g2, 0, none⟩) D.last.length c2, v3, .int .i64 D.left, .bool D.down] 66 (0, 0))
  ge : b ≤ g
  mem : F g
  now : Kd.string.R 9 W b F (.slice (some ⟨g1, 0, none⟩) D.now.length c1) D.now
  last : Kd.string.R 9 W b F (.slice (some ⟨g2, 0, none⟩) D.last.length c2) D.last
  pend : kW.R 80 W b F v3 D.pend
  ne : g1 ≠ g2
  ok : D.Ok
def IsDev (W : World) (b : Nat) (F : Nat → Prop) (g : Nat) (D : Dev) : Prop := ∃ g1 c1 g2 c2 v3, Op W b F g D g1 c1 g2 c2 v3

section
variable {W W1 : World} {b g g1 c1 g2 c2 : Nat} {F F' : Nat → Prop} {D : Dev} {v3 : Value}
theorem Op.blk1 (h : Op W b F g D g1 c1 g2 c2 v3) : ∃ cells, W.heap[g1]? = some (.cells cells 9 (0, 0)) := Kd.R_typed h.now g1 rfl
theorem Op.blk2 (h : Op W b F g D g1 c1 g2 c2 v3) : ∃ cells, W.heap[g2]? = some (.cells cells 9 (0, 0)) := Kd.R_typed h.last g2 rfl
theorem Op.ne1 (h : Op W b F g D g1 c1 g2 c2 v3) : g ≠ g1 := by
  obtain ⟨cells, hc⟩ := h.blk1
  exact blk_ne h.blk hc (by decide)
theorem Op.ne2 (h : Op W b F g D g1 c1 g2 c2 v3) : g ≠ g2 := by
  obtain ⟨cells, hc⟩ := h.blk2
  exact blk_ne h.blk hc (by decide)
theorem Op.ne3 (h : Op W b F g D g1 c1 g2 c2 v3) : some g ≠ v3.ownBlock := Kd.R_ne h.pend h.blk (by decide)
theorem Op.ne13 (h : Op W b F g D g1 c1 g2 c2 v3) : some g1 ≠ v3.ownBlock := by
  obtain ⟨cells, hc⟩ := h.blk1
  exact Kd.R_ne h.pend hc (by decide)
theorem Op.ne23 (h : Op W b F g D g1 c1 g2 c2 v3) : some g2 ≠ v3.ownBlock := by
  obtain ⟨cells, hc⟩ := h.blk2
  exact Kd.R_ne h.pend hc (by decide)
theorem Op.F1 (h : Op W b F g D g1 c1 g2 c2 v3) : F g1 := h.now.1 g1 rfl
theorem Op.F2 (h : Op W b F g D g1 c1 g2 c2 v3) : F g2 := h.last.1 g2 rfl
theorem Op.F3 (h : Op W b F g D g1 c1 g2 c2 v3) : ∀ k, v3.ownBlock = some k → F k := h.pend.1
theorem Op.cell0 (h : Op W b F g D g1 c1 g2 c2 v3) : W.cell? ⟨g, 0, none⟩ = some (.slice (some ⟨g1, 0, none⟩) D.now.length c1) := (blk_cell h.blk 0).trans rfl
theorem Op.cell1 (h : Op W b F g D g1 c1 g2 c2 v3) : W.cell? ⟨g, 1, none⟩ = some (.slice (some ⟨g2, 0, none⟩) D.last.length c2) := (blk_cell h.blk 1).trans rfl
theorem Op.cell2 (h : Op W b F g D g1 c1 g2 c2 v3) : W.cell? ⟨g, 2, none⟩ = some v3 := (blk_cell h.blk 2).trans rfl
theorem Op.cell3 (h : Op W b F g D g1 c1 g2 c2 v3) : W.cell? ⟨g, 3, none⟩ = some (.int .i64 D.left) := (blk_cell h.blk 3).trans rfl
theorem Op.cell4 (h : Op W b F g D g1 c1 g2 c2 v3) : W.cell? ⟨g, 4, none⟩ = some (.bool D.down) := (blk_cell h.blk 4).trans rfl
theorem Op.frz (h : Op W b F g D g1 c1 g2 c2 v3) (i : Nat) : W.frozen? ⟨g, i, none⟩ = false := blk_frozen h.blk i
theorem Op.at1 (h : Op W b F g D g1 c1 g2 c2 v3) (i : Int) (h0 : 0 ≤ i) (hi : i < D.now.length) : W.cell? ⟨g1, i.toNat, none⟩ = some (.string (rdOf ByteArray.empty D.now i)) ∧ W.frozen? ⟨g1, i.toNat, none⟩ = false := Kd.R_cell ByteArray.empty h.now i h0 hi
theorem Op.at2 (h : Op W b F g D g1 c1 g2 c2 v3) (i : Int) (h0 : 0 ≤ i) (hi : i < D.last.length) : W.cell? ⟨g2, i.toNat, none⟩ = some (.string (rdOf ByteArray.empty D.last i)) ∧ W.frozen? ⟨g2, i.toNat, none⟩ = false := Kd.R_cell ByteArray.empty h.last i h0 hi

theorem Op.step (h : Op W b F g D g1 c1 g2 c2 v3) (hs : ∀ k, F k → k < W.heap.size → W1.heap[k]? = W.heap[k]?) : Op W1 b F g D g1 c1 g2 c2 v3 :=
  ⟨(hs g h.mem (blk_lt h.blk)).trans h.blk, h.ge, h.mem, Kd.R_step h.now hs, Kd.R_step h.last hs, Kd.R_step h.pend hs, h.ne, h.ok⟩
theorem Op.mono (h : Op W b F g D g1 c1 g2 c2 v3) (hs : ∀ k, F k → F' k) : Op W b F' g D g1 c1 g2 c2 v3 :=
  ⟨h.blk, h.ge, hs g h.mem, Kd.R_mono h.now hs, Kd.R_mono h.last hs, Kd.R_mono h.pend hs, h.ne, h.ok⟩
theorem Op.bound (h : Op W b F g D g1 c1 g2 c2 v3) : Op W b (fun k => F k ∧ b ≤ k ∧ k < W.heap.size ∧ ∃ t, Rt t ∧ ∃ cells, W.heap[k]? = some (.cells cells t (0, 0))) g D g1 c1 g2 c2 v3 :=
  ⟨h.blk, h.ge, ⟨h.mem, h.ge, blk_lt h.blk, 66, .inl rfl, _, h.blk⟩,
   Kd.R_mono (Kd.R_bound h.now) (fun k ⟨h0, h1, h2, q, hq, hc⟩ => ⟨h0, h1, h2, q, by rcases List.mem_cons.1 hq with rfl | hq; exact .inr (.inl rfl); exact absurd hq (List.not_mem_nil), hc⟩),
   Kd.R_mono (Kd.R_bound h.last) (fun k ⟨h0, h1, h2, q, hq, hc⟩ => ⟨h0, h1, h2, q, by rcases List.mem_cons.1 hq with rfl | hq; exact .inr (.inl rfl); exact absurd hq (List.not_mem_nil), hc⟩),
   Kd.R_mono (Kd.R_bound h.pend) (fun k ⟨h0, h1, h2, q, hq, hc⟩ => ⟨h0, h1, h2, q, by rcases List.mem_cons.1 hq with rfl | hq; exact .inr (.inr rfl); exact absurd hq (by rw [kW_E]; exact List.not_mem_nil), hc⟩),
   h.ne, h.ok⟩

theorem IsDev.step (h : IsDev W b F g D) (hs : ∀ k, F k → k < W.heap.size → W1.heap[k]? = W.heap[k]?) : IsDev W1 b F g D := by
  obtain ⟨g1, c1, g2, c2, v3, h⟩ := h
  exact ⟨g1, c1, g2, c2, v3, h.step hs⟩
theorem IsDev.mono (h : IsDev W b F g D) (hs : ∀ k, F k → F' k) : IsDev W b F' g D := by
  obtain ⟨g1, c1, g2, c2, v3, h⟩ := h
  exact ⟨g1, c1, g2, c2, v3, h.mono hs⟩
theorem IsDev.bound (h : IsDev W b F g D) : IsDev W b (fun k => F k ∧ b ≤ k ∧ k < W.heap.size ∧ ∃ t, Rt t ∧ ∃ cells, W.heap[k]? = some (.cells cells t (0, 0))) g D := by
  obtain ⟨g1, c1, g2, c2, v3, h⟩ := h
  exact ⟨g1, c1, g2, c2, v3, h.bound⟩
theorem IsDev.ok (h : IsDev W b F g D) : D.Ok := by
  obtain ⟨g1, c1, g2, c2, v3, h⟩ := h
  exact h.ok
end


/-- What is behind a call of the device at block g. -/
def Moved (W W1 : World) (b : Nat) (F : Nat → Prop) (g : Nat) (D : Dev) : Prop := ∃ F1, IsDev W1 b F1 g D ∧ (∀ k, F1 k → F k ∨ W.heap.size ≤ k) ∧ Mv W W1 F
theorem Moved.same {W W1 : World} {b : Nat} {F : Nat → Prop} {g : Nat} {D : Dev} (h : IsDev W1 b F g D) (hm : Mv W W1 F) : Moved W W1 b F g D := ⟨F, h, fun _ hk => .inl hk, hm⟩
theorem Moved.then_ {W W1 W2 : World} {b : Nat} {F : Nat → Prop} {g : Nat} {D D1 : Dev} (h : Moved W W1 b F g D) (k : ∀ F1, IsDev W1 b F1 g D → Moved W1 W2 b F1 g D1) : Moved W W2 b F g D1 := by
  obtain ⟨F1, h1, hF1, hm1⟩ := h
  obtain ⟨F2, h2, hF2, hm2⟩ := k F1 h1
  refine ⟨F2, h2, fun j hj => ?_, hm1.trans hm2 hF1⟩
  rcases hF2 j hj with h3 | h3
  · exact hF1 j h3
  · exact .inr (Nat.le_trans hm1.size h3)


section
variable {W : World} {b g : Nat} {F : Nat → Prop} {D : Dev}

theorem Op.left {g1 c1 g2 c2 : Nat} {v3 : Value} (h : Op W b F g D g1 c1 g2 c2 v3) (x : Int) (h0 : -1 ≤ x) (h1 : x < 9223372036854775808) : Op (W.setCell ⟨g, 3, none⟩ (.int .i64 x)) b F g { D with left := x } g1 c1 g2 c2 v3 :=
  ⟨by simpa using blk_set h.blk 3 (.int .i64 x), h.ge, h.mem,
   Kd.R_set h.now h.blk (by decide) 3 _, Kd.R_set h.last h.blk (by decide) 3 _, Kd.R_set h.pend h.blk (by decide) 3 _, h.ne, ⟨h.ok.len, h.ok.pos, h.ok.small, h.ok.at_, h0, h1⟩⟩
theorem Op.power {g1 c1 g2 c2 : Nat} {v3 : Value} (h : Op W b F g D g1 c1 g2 c2 v3) (x : Bool) : Op (W.setCell ⟨g, 4, none⟩ (.bool x)) b F g { D with down := x } g1 c1 g2 c2 v3 :=
  ⟨by simpa using blk_set h.blk 4 (.bool x), h.ge, h.mem,
   Kd.R_set h.now h.blk (by decide) 4 _, Kd.R_set h.last h.blk (by decide) 4 _, Kd.R_set h.pend h.blk (by decide) 4 _, h.ne, ⟨h.ok.len, h.ok.pos, h.ok.small, h.ok.at_, h.ok.left0, h.ok.left1⟩⟩
theorem Op.drewN {g1 c1 g2 c2 : Nat} {v3 : Value} (h : Op W b F g D g1 c1 g2 c2 v3) (n : Nat) : Op (W.drewN n) b F g D g1 c1 g2 c2 v3 := h.step (fun _ _ _ => rfl)
theorem Op.drew {g1 c1 g2 c2 : Nat} {v3 : Value} (h : Op W b F g D g1 c1 g2 c2 v3) : Op W.drew b F g D g1 c1 g2 c2 v3 := h.step (fun _ _ _ => rfl)

theorem Op.is {W : World} {b g : Nat} {F : Nat → Prop} {D : Dev} {g1 c1 g2 c2 : Nat} {v3 : Value} (h : Op W b F g D g1 c1 g2 c2 v3) : IsDev W b F g D := ⟨g1, c1, g2, c2, v3, h⟩


end

section
variable {W : World} {b g : Nat} {F : Nat → Prop} {D : Dev} {g1 c1 g2 c2 : Nat} {v3 : Value}

theorem Op.putAt (h : Op W b F g D g1 c1 g2 c2 v3) (i : Int) (s : ByteArray) : Op (W.setCell ⟨g1, i.toNat, none⟩ (.string s)) b F g { D with now := D.now.set i.toNat s } g1 c1 g2 c2 v3 := by
  have e1 := Kd.R_put h.now i s
  have hl : (D.now.set i.toNat s).length = D.now.length := by simp
  exact ⟨by show _ = some (Obj.cells #[.slice (some ⟨g1, 0, none⟩) (D.now.set i.toNat s).length c1, _, _, _, _] 66 (0, 0)); rw [hl]; exact blk_far h.blk h.ne1 _, h.ge, h.mem, by show Kd.string.R 9 _ b F (.slice (some ⟨g1, 0, none⟩) (D.now.set i.toNat s).length c1) _; rw [hl]; exact e1.1,
    Kd.R_mono (Kd.R_far (p := ⟨g1, i.toNat, none⟩) (Kd.R_tight rfl h.last) (fun k hk => by rw [show k = g2 by simpa [Value.ownBlock] using hk]; exact h.ne.symm) _) (fun k hk => h.last.1 k hk.symm),
    Kd.R_mono (Kd.R_far (p := ⟨g1, i.toNat, none⟩) (Kd.R_tight rfl h.pend) (fun k hk e => h.ne13 (by rw [← hk, e])) _) (fun k hk => h.pend.1 k hk.symm), h.ne,
    ⟨by show D.last.length = (D.now.set i.toNat s).length; rw [hl]; exact h.ok.len, by show 0 < (D.now.set i.toNat s).length; rw [hl]; exact h.ok.pos, by show (D.now.set i.toNat s).length ≤ _; rw [hl]; exact h.ok.small, fun p hp => by show 0 ≤ p.1 ∧ p.1 < ((D.now.set i.toNat s).length : Int); rw [hl]; exact h.ok.at_ p hp, h.ok.left0, h.ok.left1⟩⟩
theorem Op.lastAt (h : Op W b F g D g1 c1 g2 c2 v3) (i : Int) (s : ByteArray) : Op (W.setCell ⟨g2, i.toNat, none⟩ (.string s)) b F g { D with last := D.last.set i.toNat s } g1 c1 g2 c2 v3 := by
  have e1 := Kd.R_put h.last i s
  have hl : (D.last.set i.toNat s).length = D.last.length := by simp
  exact ⟨by show _ = some (Obj.cells #[_, .slice (some ⟨g2, 0, none⟩) (D.last.set i.toNat s).length c2, _, _, _] 66 (0, 0)); rw [hl]; exact blk_far h.blk h.ne2 _, h.ge, h.mem,
    Kd.R_mono (Kd.R_far (p := ⟨g2, i.toNat, none⟩) (Kd.R_tight rfl h.now) (fun k hk => by rw [show k = g1 by simpa [Value.ownBlock] using hk]; exact h.ne) _) (fun k hk => h.now.1 k hk.symm),
    by show Kd.string.R 9 _ b F (.slice (some ⟨g2, 0, none⟩) (D.last.set i.toNat s).length c2) _; rw [hl]; exact e1.1,
    Kd.R_mono (Kd.R_far (p := ⟨g2, i.toNat, none⟩) (Kd.R_tight rfl h.pend) (fun k hk e => h.ne23 (by rw [← hk, e])) _) (fun k hk => h.pend.1 k hk.symm), h.ne,
    ⟨by show (D.last.set i.toNat s).length = _; rw [hl]; exact h.ok.len, h.ok.pos, h.ok.small, h.ok.at_, h.ok.left0, h.ok.left1⟩⟩
theorem Op.pended (h : Op W b F g D g1 c1 g2 c2 v3) {W1 : World} {v : Value} {ps : List (Int × ByteArray)} (h1 : kW.R 80 W1 b F v ps) (hg : W.grownBy W1 v3.ownBlock) (hps : ∀ p, p ∈ ps → 0 ≤ p.1 ∧ p.1 < D.now.length) :
    Op (W1.setCell ⟨g, 2, none⟩ v) b F g { D with pend := ps } g1 c1 g2 c2 v := by
  have hb := (hg.block g (blk_lt h.blk) h.ne3).trans h.blk
  have hm : ∀ k, (some k ≠ v3.ownBlock) → k < W.heap.size → W1.heap[k]? = W.heap[k]? := fun k hk hl => hg.block k hl hk
  have e1 : Kd.string.R 9 W1 b F (.slice (some ⟨g1, 0, none⟩) D.now.length c1) D.now := Kd.R_mono (Kd.R_step (Kd.R_tight rfl h.now) (fun k hk hl => hm k (by rw [show k = g1 by simpa [Value.ownBlock] using hk]; exact h.ne13) hl)) (fun k hk => h.now.1 k hk.symm)
  have e2 : Kd.string.R 9 W1 b F (.slice (some ⟨g2, 0, none⟩) D.last.length c2) D.last := Kd.R_mono (Kd.R_step (Kd.R_tight rfl h.last) (fun k hk hl => hm k (by rw [show k = g2 by simpa [Value.ownBlock] using hk]; exact h.ne23) hl)) (fun k hk => h.last.1 k hk.symm)
  exact ⟨by simpa using blk_set hb 2 v, h.ge, h.mem, Kd.R_set e1 hb (by decide) 2 _, Kd.R_set e2 hb (by decide) 2 _, Kd.R_set h1 hb (by decide) 2 _, h.ne,
    ⟨h.ok.len, h.ok.pos, h.ok.small, hps, h.ok.left0, h.ok.left1⟩⟩

theorem Moved.drawn {W1 : World} {n : Nat} (h : Moved (W.drewN n) W1 b F g D) : Moved W W1 b F g D := by
  obtain ⟨F1, h1, h2, h3⟩ := h
  exact ⟨F1, h1, h2, ((Mv.refl W F).drewN n).trans h3 (fun _ h => .inl h)⟩


theorem Op.below {W1 : World} (h : Op W b F g D g1 c1 g2 c2 v3) (hb : Below W.heap.size W W1) : Op W1 b F g D g1 c1 g2 c2 v3 := h.step (fun k _ hk => hb.block k hk)

theorem Moved.then2 {W1 W2 : World} {F1 : Nat → Prop} {D1 : Dev} (h1 : IsDev W1 b F1 g D) (hF : ∀ k, F1 k → F k ∨ W.heap.size ≤ k) (hM : Mv W W1 F) (h2 : Moved W1 W2 b F1 g D1) : Moved W W2 b F g D1 := by
  obtain ⟨F2, h3, hF2, hM2⟩ := h2
  refine ⟨F2, h3, fun j hj => ?_, hM.trans hM2 hF⟩
  rcases hF2 j hj with h4 | h4
  · exact hF j h4
  · exact .inr (Nat.le_trans hM.size h4)


end
end Go.Proofs.Ytakpedenoocmpaa.Rf
