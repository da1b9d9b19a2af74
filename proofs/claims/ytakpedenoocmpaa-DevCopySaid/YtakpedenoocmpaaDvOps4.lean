import Derived.Test.YtakpedenoocmpaaDvOps3
/-! Flush. -/
namespace Go.Proofs.Ytakpedenoocmpaa.Dv
open Go.RowKit Go.Proofs.YtakpedenoocmpaaW.PrintWords Go.Proofs.YtakpedenoocmpaaW.PrintLast Go.Proofs.YtakpedenoocmpaaW.PrintMore
attribute [local go_sem] max2_int min2_int max_two min_two max_three min_three max_four min_four
set_option linter.unusedVariables false
set_option linter.unusedSimpArgs false

section
variable {W : World} {b g : Nat} {F : Nat → Prop} {D : Dev} {g1 c1 g2 c2 : Nat} {v3 : Value}
theorem at_W {w : World} {A : Option Addr} {n : Nat} {xs : List (Int × ByteArray)} (h : kW.C w A n xs) (i : Int) (h0 : 0 ≤ i) (h1 : i < n) : ∃ ad, A = some ad ∧ w.cell? (ad.add (i.toNat * 2)) = some (.int .i64 (xs.getD i.toNat (0, ⟨#[]⟩)).1) ∧ w.cell? ⟨(ad.add (i.toNat * 2)).block, (ad.add (i.toNat * 2)).off + 1, none⟩ = some (.string (xs.getD i.toNat (0, ⟨#[]⟩)).2) := by
  obtain ⟨ad, c, e, _, hK, hc0⟩ := Kd.C_get h (0, ⟨#[]⟩) i h0 h1
  have hc : ∀ j u, c[j]? = some u → w.cell? (ad.add (i.toNat * 2 + j)) = some u := hc0
  obtain ⟨_, _, rfl, rfl, rfl⟩ := hK
  exact ⟨ad, e, hc 0 _ rfl, by rw [← add_field _ _ 1 (by omega)]; exact hc 1 _ rfl⟩
theorem laid_succ (l : List ByteArray) (ps : List (Int × ByteArray)) (j : Nat) (h : j < ps.length) : laid l (ps.take (j + 1)) = (laid l (ps.take j)).set (ps.getD j (0, ⟨#[]⟩)).1.toNat (ps.getD j (0, ⟨#[]⟩)).2 := by
  have e : ps.take (j + 1) = ps.take j ++ [ps.getD j (0, ⟨#[]⟩)] := by
    rw [List.take_add_one]
    simp [List.getD, h]
  rw [e, laid_append]
  rfl
theorem Op.below {W1 : World} (h : Op W b F g D g1 c1 g2 c2 v3) (hb : Below W.heap.size W W1) : Op W1 b F g D g1 c1 g2 c2 v3 := h.step (fun k _ hk => hb.block k hk)

theorem Moved.then2 {W1 W2 : World} {F1 : Nat → Prop} {D1 : Dev} (h1 : IsDev W1 b F1 g D) (hF : ∀ k, F1 k → F k ∨ W.heap.size ≤ k) (hM : Mv W W1 F) (h2 : Moved W1 W2 b F1 g D1) : Moved W W2 b F g D1 := by
  obtain ⟨F2, h3, hF2, hM2⟩ := h2
  refine ⟨F2, h3, fun j hj => ?_, hM.trans hM2 hF⟩
  rcases hF2 j hj with h4 | h4
  · exact hF j h4
  · exact .inr (Nat.le_trans hM.size h4)

set_option maxHeartbeats 8000000 in
set_option maxRecDepth 100000 in
theorem Flush_calls (h : IsDev W b F g D) (hp : D.pend.length ≤ 1000000) : Calls Try.prog 14 #[.pointer (some ⟨g, 0, none⟩)] W fun e W' => e = .returned (.int .i64 D.flush.1) ∧ Moved W W' b F g D.flush.2 := by
  have HD := Aside0.mk h
  obtain ⟨g1, c1, g2, c2, v3, h⟩ := h
  have h4 := h.cell4
  clear h
  by_cases hd : D.down = true
  · have hx : D.flush = (8, D) := by unfold Dev.flush; rw [if_pos hd]
    rw [hx]
    clear hx
    rw [hd] at h4
    clear hd
    go_enter Try.func14, Try.ntmps14
    go_wp2
    go_ret
    exact ⟨rfl, Moved.same (HD.out.step (by intros; rfl)) (by repeat (first | exact Mv.refl _ _ | apply Mv.drewN | apply Mv.drew))⟩
  · have hd1 := Bool.eq_false_iff.mpr hd
    by_cases hq : D.spend.1 = 0
    · have hx : D.flush = (0, { D.spend.2 with last := laid D.last D.pend, pend := [] }) := by unfold Dev.flush; rw [if_neg hd, if_pos hq]
      rw [hx]
      clear hx hd
      rw [hd1] at h4
      clear hd1
      have hsp := spend_calls HD.out
      have HL := spend_last D
      have HP := spend_pend D
      rw [hq] at hsp
      rw [← HL, ← HP]
      rw [← HP] at hp
      clear hq HL HP
      generalize D.spend.2 = D1 at hsp hp ⊢
      have HSP := Aside0.mk hsp
      clear hsp
      have hp1 := Aside0.mk hp
      clear hp
      go_enter Try.func14, Try.ntmps14
      go_wp2_with (first | (go_at_call 28; refine HSP.out.mono ?_; rintro e w1 ⟨rfl, F1, ⟨g1, c1, g2, c2, v3, h1⟩, hF1, hM1⟩; obtain ⟨A, c, rfl⟩ := Kd.R_slice h1.pend; have e2 := h1.cell2; have HI := Aside0.mk h1; have HM1 := Aside0.mk hM1; have HF1 := Aside0.mk hF1; clear h1 hM1 hF1))
      go_loopw [20] (fun v20 wr => ∃ j : Nat, v20 = .int .i64 (j : Int) ∧ j ≤ D1.pend.length ∧ Aside0 (Op wr b F1 g { D1 with last := laid D1.last (D1.pend.take j) } g1 c1 g2 c2 (.slice A D1.pend.length c)) ∧ Aside0 (Mv W wr F)) (fun v20 _ => D1.pend.length - (intOf v20).toNat)
      case atStart => exact ⟨0, rfl, Nat.zero_le _, ⟨by simpa [laid] using HI.out⟩, HM1⟩
      case round =>
        have HF0 := Aside0.mk HI.out.ok
        clear HI HM1 e2
        obtain ⟨j, rfl, hj, HI, HM⟩ := hrel
        by_cases hlt : j < D1.pend.length
        · have HLT := Aside0.mk hlt
          obtain ⟨ad, rfl, hx0, hx1⟩ := at_W (Kd.R_reads' HI.out.pend).2.2 (j : Int) (by omega) (by show (j : Int) < (D1.pend.length : Nat); omega)
          simp only [Int.toNat_natCast] at hx0 hx1
          have hm : D1.pend.getD j (0, ⟨#[]⟩) ∈ D1.pend := by simp [List.getD, hlt]
          have hk := HF0.out.at_ _ hm
          have HS := Aside0.mk (laid_succ D1.last D1.pend j hlt)
          generalize D1.pend.getD j (0, ⟨#[]⟩) = x at HS hx0 hx1 hk
          have hk0 := eq_true hk.1
          have HK := Aside0.mk hk
          have hk1 := eq_true (show x.1 < (D1.last.length : Int) by have := hk.2; have := HF0.out.len; omega)
          have hk2 := decide_eq_true hk.1
          have hk3 := decide_eq_true (show x.1 < (D1.last.length : Int) by have := hk.2; have := HF0.out.len; omega)
          clear hm hk
          go_wp2
          clear hx0 hx1
          have hb0 : Below wr.heap.size wr (wr.alloc (.cells #[.int .i64 x.1, .string x.2] 62)) := below_alloc (Below.refl _ _) _
          have hxk := heap_alloc_new wr (.cells #[.int .i64 x.1, .string x.2] 62)
          have hI := HI.out.below hb0
          have hM := HM.out.alloc (.cells #[.int .i64 x.1, .string x.2] 62)
          generalize wr.alloc (.cells #[.int .i64 x.1, .string x.2] 62) = W2 at hb0 hxk hI hM ⊢
          generalize wr.heap.size = gb at hxk ⊢
          have q0 : W2.cell? ⟨gb, 0, none⟩ = some (.int .i64 x.1) := (blk_cell hxk 0).trans rfl
          have q1 : W2.cell? ⟨gb, 1, none⟩ = some (.string x.2) := (blk_cell hxk 1).trans rfl
          have e1 := hI.cell1
          obtain ⟨ea, ef⟩ := hI.at2 x.1 HK.out.1 (by show x.1 < ((laid D1.last (D1.pend.take j)).length : Int); rw [laid_length]; exact of_eq_true hk1)
          simp only [laid_length] at e1
          have n1 := blk_ne hI.blk hxk (by decide)
          have HI2 := Aside0.mk hI
          have HM2 := Aside0.mk hM
          clear hb0 hxk hI hM HI HM
          go_wp2
          go_region
          have hjb : j ≤ 1000000 := by have := HLT.out; have := hp1.out; omega
          go_wp2
          go_roundw
          case rel =>
            refine ⟨j + 1, by go_num, by omega, ⟨?_⟩, ⟨?_⟩⟩
            · have hO := HI2.out.drew.lastAt x.1 x.2
              rw [HS.out]
              exact hO
            · exact (HM2.out.drew).setCell (HF1.out _ HI2.out.F2) _
          case measure => simp [intOf]; omega
        · obtain rfl : j = D1.pend.length := by omega
          go_wp2_with (first | (go_at_call 29; refine (forget_calls HI.out.is).mono ?_; rintro e w2 ⟨rfl, hM2⟩; have HM2 := Aside0.mk hM2; clear hM2))
          go_ret
          exact ⟨rfl, Moved.then2 (HI.out.is) HF1.out HM.out (by simpa using HM2.out)⟩
    · have hx : D.flush = D.spend := by unfold Dev.flush; rw [if_neg hd, if_neg hq]
      rw [hx]
      clear hx hd
      rw [hd1] at h4
      clear hd1
      have hq1 := bne_iff_ne.mpr hq
      go_enter Try.func14, Try.ntmps14
      go_wp2_with (first | (go_at_call 28; refine (spend_calls HD.out).mono ?_; rintro e w1 ⟨rfl, hM1⟩; have HM1 := Aside0.mk hM1; clear hM1))
      go_ret
      exact ⟨rfl, HM1.out⟩
end
end Go.Proofs.Ytakpedenoocmpaa.Dv
