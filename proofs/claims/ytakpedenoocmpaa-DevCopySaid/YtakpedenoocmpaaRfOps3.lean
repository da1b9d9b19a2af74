import Derived.Test.YtakpedenoocmpaaRfOps2
/-! The reference's Flush. -/
namespace Go.Proofs.Ytakpedenoocmpaa.Rf
open Go.RowKit Go.Proofs.YtakpedenoocmpaaW.PrintWords Go.Proofs.YtakpedenoocmpaaW.PrintLast Go.Proofs.YtakpedenoocmpaaW.PrintMore
open Go.Proofs.Ytakpedenoocmpaa.Dv (Dev kW kW_E kW_sz kW_mk kW_open Mv wrong_ok spend_now spend_last spend_pend zW infoW)
attribute [local go_sem] max2_int min2_int max_two min_two max_three min_three max_four min_four
set_option linter.unusedVariables false
set_option linter.unusedSimpArgs false

/-- what a flush does here: the sectors of the last flush are those of now. -/
def rflush (D : Dev) : Int × Dev := if D.down = true then (8, D) else if D.spend.1 = 0 then (0, { D.spend.2 with last := D.now, pend := [] }) else D.spend
/-- An empty row in a block of its own. -/
theorem empty_R {W : World} {b g : Nat} {ok : Nat → Prop} (hb : b ≤ g) (hok : ok g) (h : W.heap[g]? = some (.cells #[] 9 (0, 0))) : Kd.string.R 9 W b ok (.slice (some ⟨g, 0, none⟩) 0 0) [] :=
  Kd.R_of_own (enc := Value.string) (h1 := fun _ => rfl) ⟨rfl, .inr ⟨g, 0, #[], rfl, hb, h, Nat.le_refl _, by decide, rfl, rfl⟩⟩ (fun k hk => by
    have : g = k := by simpa [Value.ownBlock] using hk
    exact this ▸ hok)
section
variable {W W1 : World} {b g : Nat} {F : Nat → Prop} {D : Dev} {g1 c1 g2 c2 g5 c5 : Nat} {v3 : Value} {l : List ByteArray}
theorem Op.setLast (h : Op W b F g D g1 c1 g2 c2 v3) (hB : Below W.heap.size W W1) (hR : Kd.string.R 9 W1 W.heap.size (fun k => W.heap.size ≤ k) (.slice (some ⟨g5, 0, none⟩) l.length c5) l) (hF : ∀ k, W.heap.size ≤ k → F k) (hb : b ≤ W.heap.size) (hl : l.length = D.now.length) :
    Op (W1.setCell ⟨g, 1, none⟩ (.slice (some ⟨g5, 0, none⟩) l.length c5)) b F g { D with last := l } g1 c1 g5 c5 v3 := by
  have h5 : W.heap.size ≤ g5 := Kd.R_base hR g5 rfl
  obtain ⟨cells, hc⟩ := h.blk1
  have h1 := blk_lt hc
  have hO := h.below hB
  exact ⟨by simpa using blk_set hO.blk 1 (.slice (some ⟨g5, 0, none⟩) l.length c5), hO.ge, hO.mem, Kd.R_set hO.now hO.blk (by decide) 1 _, Kd.R_set (Kd.R_lower (Kd.R_mono hR hF) hb) hO.blk (by decide) 1 _, Kd.R_set hO.pend hO.blk (by decide) 1 _, by omega,
    ⟨hl, hO.ok.pos, hO.ok.small, hO.ok.at_, hO.ok.left0, hO.ok.left1⟩⟩
theorem Op.setNow (h : Op W b F g D g1 c1 g2 c2 v3) (hB : Below W.heap.size W W1) (hR : Kd.string.R 9 W1 W.heap.size (fun k => W.heap.size ≤ k) (.slice (some ⟨g5, 0, none⟩) l.length c5) l) (hF : ∀ k, W.heap.size ≤ k → F k) (hb : b ≤ W.heap.size) (hl : l.length = D.now.length) :
    Op (W1.setCell ⟨g, 0, none⟩ (.slice (some ⟨g5, 0, none⟩) l.length c5)) b F g { D with now := l } g5 c5 g2 c2 v3 := by
  have h5 : W.heap.size ≤ g5 := Kd.R_base hR g5 rfl
  obtain ⟨cells, hc⟩ := h.blk2
  have h1 := blk_lt hc
  have hO := h.below hB
  exact ⟨by simpa using blk_set hO.blk 0 (.slice (some ⟨g5, 0, none⟩) l.length c5), hO.ge, hO.mem, Kd.R_set (Kd.R_lower (Kd.R_mono hR hF) hb) hO.blk (by decide) 0 _, Kd.R_set hO.last hO.blk (by decide) 0 _, Kd.R_set hO.pend hO.blk (by decide) 0 _, by omega,
    ⟨by show D.last.length = l.length; rw [hl]; exact hO.ok.len, by show 0 < l.length; rw [hl]; exact hO.ok.pos, by show l.length ≤ _; rw [hl]; exact hO.ok.small, by show ∀ p, p ∈ D.pend → 0 ≤ p.1 ∧ p.1 < l.length; rw [hl]; exact hO.ok.at_, hO.ok.left0, hO.ok.left1⟩⟩
theorem Op.noPend (h : Op W b F g D g1 c1 g2 c2 v3) : Op (W.setCell ⟨g, 2, none⟩ (.slice none 0 0)) b F g { D with pend := [] } g1 c1 g2 c2 (.slice none 0 0) :=
  ⟨by simpa using blk_set h.blk 2 (.slice none 0 0), h.ge, h.mem, Kd.R_set h.now h.blk (by decide) 2 _, Kd.R_set h.last h.blk (by decide) 2 _, Kd.R_nil _ _ _ _ _, h.ne,
    ⟨h.ok.len, h.ok.pos, h.ok.small, (fun p hp => by simp at hp), h.ok.left0, h.ok.left1⟩⟩
end
theorem infoS : (Try.prog.info? 9).map (fun i => (i.zero, i.size, i.bytes)) = some (some (.string ⟨#[]⟩), 1, 16) := by kernel_rfl
section
variable {W : World} {b g : Nat} {F : Nat → Prop} {D : Dev}

set_option maxHeartbeats 8000000 in
set_option maxRecDepth 100000 in
theorem Flush_calls (h : IsDev W b F g D) (hb : b ≤ W.heap.size) : Calls Try.prog 32 #[.pointer (some ⟨g, 0, none⟩)] W fun e W' => e = .returned (.int .i64 (rflush D).1) ∧ Moved W W' b F g (rflush D).2 := by
  have HD := Aside0.mk h
  have h4 : W.cell? ⟨g, 4, none⟩ = some (.bool D.down) := by
    obtain ⟨g1, c1, g2, c2, v3, h⟩ := h
    exact h.cell4
  clear h
  by_cases hd : D.down = true
  · have hx : rflush D = (8, D) := by unfold rflush; rw [if_pos hd]
    rw [hx]
    clear hx
    rw [hd] at h4
    clear hd
    go_enter Try.func32, Try.ntmps32
    go_wp2
    go_ret
    exact ⟨rfl, Moved.same (HD.out.step (by intros; rfl)) (by repeat (first | exact Mv.refl _ _ | apply Mv.drewN | apply Mv.drew))⟩
  · have hd1 := Bool.eq_false_iff.mpr hd
    rw [hd1] at h4
    by_cases hq : D.spend.1 = 0
    · have hx : rflush D = (0, { D.spend.2 with last := D.now, pend := [] }) := by unfold rflush; rw [if_neg hd, if_pos hq]
      rw [hx, ← spend_now D]
      clear hx hd hd1
      have HC := Aside0.mk (count_calls HD.out)
      rw [decide_eq_true hq] at HC
      clear hq
      generalize D.spend.2 = D1 at HC ⊢
      go_enter Try.func32, Try.ntmps32
      go_wp2_with (first | (go_at_call 44; refine HC.out.mono ?_; rintro e w1 ⟨rfl, F1, ⟨g1, c1, g2, c2, v3, h1⟩, hF1, hM1⟩; have ltg := blk_lt h1.blk; have e0 := h1.cell0; have e1 := h1.cell1; have f1 := h1.frz 1; have HI := Aside0.mk (h1.mono (F' := fun k => F1 k ∨ w1.heap.size ≤ k) (fun _ hk => .inl hk)); have HM1 := Aside0.mk hM1; have HF1 := Aside0.mk hF1; clear h1 hM1 hF1) | ((with_reducible refine gate_builtin (b := .append) (xs := #[.tmp 13, .tmp 17]) rfl ?_); at_builtin; refine Kd.R_append_row Value.string ByteArray.empty (h1 := fun _ => rfl) (w0 := w1) w1.heap.size rfl (.tmp 13) (.tmp 17) 53 9 (.string ⟨#[]⟩) 16 rfl Try.underlying53 infoS rfl (by decide) (.slice (some ⟨w1.heap.size, 0, none⟩) 0 0) [] D1.now (some ⟨g1, 0, none⟩) D1.now.length c1 (fun k => w1.heap.size ≤ k) rfl rfl (fun k hk => Nat.le_trans (by simp) hk) (empty_R (Nat.le_refl _) (Nat.le_refl _) (heap_alloc_new w1 _)) (Kd.R_reads' (HI.out.below (below_alloc (Below.refl _ _) _)).now).2.2 (below_alloc (Below.refl _ _) _) (by simp) (by have := HI.out.ok.small; simp; omega) ?_; intro v1 w2 ho hB2 _ _; rw [List.nil_append] at ho; obtain ⟨g5, c5, rfl, _⟩ := Kd.R_form ho HI.out.ok.pos; have HO := Aside0.mk ho; have HB2 := Aside0.mk hB2; have hI := HI.out.below hB2; have e3 := hI.cell1; have f3 := hI.frz 1; have f4 := hI.frz 2; have e4 := hI.cell2; clear ho hB2 hI))
      go_ret
      have hmap : ∀ k, (F1 k ∨ w1.heap.size ≤ k) → F k ∨ W.heap.size ≤ k := fun k hk => hk.elim (fun h1 => HF1.out k h1) (fun h1 => .inr (Nat.le_trans HM1.out.size h1))
      have hO := (HI.out.setLast HB2.out HO.out (fun k hk => .inr hk) (Nat.le_trans hb HM1.out.size) rfl).noPend
      exact ⟨rfl, _, hO.is, hmap, ((HM1.out.trans (Mv.of_below HB2.out (fun _ => False)) (fun _ h => h.elim)).setCell (hmap _ HI.out.mem) _).setCell (hmap _ HI.out.mem) _⟩
    · have hx : rflush D = (8, D.spend.2) := by
        unfold rflush
        rw [if_neg hd, if_neg hq]
        have h8 : D.spend.1 = 8 := by unfold Dev.spend at hq ⊢; split; rfl; split <;> simp_all
        rw [← h8]
      rw [hx]
      clear hx hd hd1
      have HC := Aside0.mk (count_calls HD.out)
      rw [decide_eq_false hq] at HC
      clear hq
      go_enter Try.func32, Try.ntmps32
      go_wp2_with (first | (go_at_call 44; refine HC.out.mono ?_; rintro e w1 ⟨rfl, hM1⟩; have HM1 := Aside0.mk hM1; clear hM1))
      go_ret
      exact ⟨rfl, HM1.out⟩
end
end Go.Proofs.Ytakpedenoocmpaa.Rf
