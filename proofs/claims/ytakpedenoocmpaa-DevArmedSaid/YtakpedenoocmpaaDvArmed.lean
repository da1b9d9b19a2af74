import Derived.Test.YtakpedenoocmpaaDvLast
/-! DevArmed's body. -/
namespace Go.Proofs.Ytakpedenoocmpaa.Dv
open Go.RowKit Go.Proofs.YtakpedenoocmpaaW.PrintWords Go.Proofs.YtakpedenoocmpaaW.PrintLast Go.Proofs.YtakpedenoocmpaaW.PrintMore
attribute [local go_sem] max2_int min2_int max_two min_two max_three min_three max_four min_four
set_option linter.unusedVariables false
set_option linter.unusedSimpArgs false

/-- Armed with n, behind c writes and flushes, i of them writes at most. -/
structure St (n : Int) (c i : Nat) (D : Dev) : Prop where
  len : D.now.length = 4
  pend : D.pend.length ≤ i
  st : (D.down = false ∧ (c : Int) ≤ n ∧ D.left = n - c) ∨ (D.down = true ∧ n < c)
theorem St.start {n : Int} (h : 0 ≤ n) : St n 0 0 ((Dev.fresh 4).arm n) := by
  have e : (Dev.fresh 4).arm n = { Dev.fresh 4 with left := n } := by unfold Dev.arm; rw [if_neg (by omega)]
  rw [e]
  exact ⟨by simp [fresh_eq], by simp [fresh_eq], .inl ⟨rfl, by omega, by show n = _; omega⟩⟩
/-- what spend says and leaves. -/
theorem St.spend {n : Int} {c i : Nat} {D : Dev} (h : St n c i D) (hd : D.down = false) :
    (D.spend = (0, { D with left := D.left - 1 }) ∧ ((c + 1 : Nat) : Int) ≤ n ∧ D.left - 1 = n - ((c + 1 : Nat) : Int)) ∨ (D.spend = (8, { D with down := true }) ∧ n < ((c + 1 : Nat) : Int)) := by
  rcases h.st with ⟨_, h1, h2⟩ | ⟨h1, _⟩
  · by_cases h0 : D.left = 0
    · exact .inr ⟨by unfold Dev.spend; rw [if_pos h0], by omega⟩
    · exact .inl ⟨by unfold Dev.spend; rw [if_neg h0, if_pos (by omega)], by omega, by omega⟩
  · rw [hd] at h1; cases h1
theorem St.flush {n : Int} {c i : Nat} {D : Dev} (h : St n c i D) : ∃ e D', D.flush = (e, D') ∧ St n (c + 1) i D' ∧ ((e = 0 ∧ ((c + 1 : Nat) : Int) ≤ n) ∨ (e = 8 ∧ n < ((c + 1 : Nat) : Int))) := by
  cases hd : D.down with
  | true =>
    refine ⟨8, D, by unfold Dev.flush; rw [if_pos hd], ⟨h.len, h.pend, .inr ⟨hd, ?_⟩⟩, .inr ⟨rfl, ?_⟩⟩ <;> rcases h.st with ⟨h1, _⟩ | ⟨_, h1⟩ <;> first | (rw [hd] at h1; cases h1) | omega
  | false =>
    have hn : ¬ D.down = true := by rw [hd]; decide
    rcases h.spend hd with ⟨hs, h1, h2⟩ | ⟨hs, h1⟩
    · refine ⟨0, { D with left := D.left - 1, last := laid D.last D.pend, pend := [] }, by unfold Dev.flush; rw [if_neg hn, hs, if_pos rfl], ⟨h.len, Nat.zero_le _, .inl ⟨hd, h1, h2⟩⟩, .inl ⟨rfl, h1⟩⟩
    · refine ⟨8, { D with down := true }, by unfold Dev.flush; rw [if_neg hn, hs, if_neg (show ¬ (8 : Int) = 0 by decide)], ⟨h.len, h.pend, .inr ⟨rfl, h1⟩⟩, .inr ⟨rfl, h1⟩⟩
theorem St.write {n : Int} {c i : Nat} {D : Dev} (h : St n c i D) {k : Int} (h0 : 0 ≤ k) (h4 : k < 4) (q : Int) : ∃ e D', D.write k (sec q) = (e, D') ∧ St n (c + 1) (i + 1) D' ∧ ((e = 0 ∧ ((c + 1 : Nat) : Int) ≤ n) ∨ (e = 8 ∧ n < ((c + 1 : Nat) : Int))) := by
  have hl := h.len
  cases hd : D.down with
  | true =>
    have hw : D.wrong k = 8 := by unfold Dev.wrong; rw [if_pos hd]
    refine ⟨8, D, by unfold Dev.write; rw [hw, if_neg (by decide)], ⟨h.len, Nat.le_succ_of_le h.pend, .inr ⟨hd, ?_⟩⟩, .inr ⟨rfl, ?_⟩⟩ <;> rcases h.st with ⟨h1, _⟩ | ⟨_, h1⟩ <;> first | (rw [hd] at h1; cases h1) | omega
  | false =>
    have hn : ¬ D.down = true := by rw [hd]; decide
    have hw : D.wrong k = 0 := by unfold Dev.wrong; rw [if_neg hn, if_neg (by omega), if_neg (by omega)]
    rcases h.spend hd with ⟨hs, h1, h2⟩ | ⟨hs, h1⟩
    · refine ⟨0, ({ D with left := D.left - 1 } : Dev).put k (sec q), by unfold Dev.write; rw [if_pos hw, if_pos (sec_size q), hs, if_pos rfl], ⟨by simpa [Dev.put] using h.len, by simp [Dev.put]; exact h.pend, .inl ⟨hd, h1, h2⟩⟩, .inl ⟨rfl, h1⟩⟩
    · refine ⟨8, { D with down := true }, by unfold Dev.write; rw [if_pos hw, if_pos (sec_size q), hs, if_neg (show ¬ (8 : Int) = 0 by decide)], ⟨h.len, Nat.le_succ_of_le h.pend, .inr ⟨rfl, h1⟩⟩, .inr ⟨rfl, h1⟩⟩
theorem St.more {n : Int} {c i : Nat} {D : Dev} (h : St n c i D) : St n c (i + 1) D := ⟨h.len, Nat.le_succ_of_le h.pend, h.st⟩
theorem St.down {n : Int} {c i : Nat} {D : Dev} (h : St n c i D) : D.down = decide (n < (c : Int)) := by
  rcases h.st with ⟨h1, h2, _⟩ | ⟨h1, h2⟩
  · rw [h1, decide_eq_false (by omega)]
  · rw [h1, decide_eq_true h2]
attribute [local irreducible] sec blankS Dev.write Dev.flush Dev.power Dev.arm Dev.fresh mk Dev.put
set_option maxHeartbeats 2000000 in
set_option maxRecDepth 100000 in
theorem DevArmed_calls (n : Int) (A : Option Addr) (c : Nat) (l : List Fn.S33) (w : World) (hr : Kd.C Fn.k33 w A l.length l) (hc : l.length ≤ c) (hfit : ∀ x, x ∈ l → -9223372036854775808 ≤ x.f0 ∧ -9223372036854775808 ≤ x.f1) (hn : -9223372036854775808 ≤ n) :
    Calls Try.prog 5 #[.int .i64 n, .slice A l.length c] w fun e w' => e = .returned (.bool true) ∧ Below w.heap.size w w' := by
  have HR := Aside0.mk hr
  have HC := Aside0.mk hc
  have HFT := Aside0.mk hfit
  have HNF := Aside0.mk hn
  have HV := Aside0.mk (Devs.nil w w.heap.size)
  have HB := Aside0.mk (Below.refl w.heap.size w)
  clear hr hc hfit hn
  cases hsm : isSmall l with
  | false =>
    go_enter Try.func5, Try.ntmps5
    go_wp2_with (first
      | (go_at_call 8; (with_reducible refine (shown_calls _).mono ?_); rintro e w' ⟨rfl, hb⟩; have HV' := Aside0.mk (HV.out.below hb); have HB' := Aside0.mk hb; clear hb HV HB; have HV := HV'; have HB := HB'; clear HV' HB')
      | (go_at_call 9; (have hC := small_calls A c l w' (Kd.C_below HR.out HB.out) HC.out; rw [hsm] at hC; with_reducible refine hC.mono ?_; clear hC); rintro e w2 ⟨rfl, ⟨nd, rfl⟩⟩; have HV' := Aside0.mk (HV.out.drewN nd); have HB' := Aside0.mk (pw_below_drewN HB.out nd); clear HV HB; have HV := HV'; have HB := HB'; clear HV' HB'))
    go_ret
    exact ⟨rfl, HB.out⟩
  | true =>
    have hlen : l.length ≤ 60 := by
      unfold isSmall at hsm
      simp at hsm
      exact hsm.1
    have HLN := Aside0.mk hlen
    clear hlen
    go_enter Try.func5, Try.ntmps5
    go_wp2_with (first
      | (go_at_call 8; (with_reducible refine (shown_calls _).mono ?_); rintro e w' ⟨rfl, hb⟩; have HV' := Aside0.mk (HV.out.below hb); have HB' := Aside0.mk hb; clear hb HV HB; have HV := HV'; have HB := HB'; clear HV' HB')
      | (go_at_call 9; (have hC := small_calls A c l w' (Kd.C_below HR.out HB.out) HC.out; rw [hsm] at hC; with_reducible refine hC.mono ?_; clear hC); rintro e w2 ⟨rfl, ⟨nd, rfl⟩⟩; have HV' := Aside0.mk (HV.out.drewN nd); have HB' := Aside0.mk (pw_below_drewN HB.out nd); clear HV HB; have HV := HV'; have HB := HB'; clear HV' HB')
      | (go_at_call 10; (have hC := stepN HV.out HB.out.size 4 (x := 4) rfl (by decide) (by decide); with_reducible refine hC.mono ?_; clear hC); rintro e w3 ⟨g1, rfl, hV, hF⟩; have HV' := Aside0.mk (hV); have HB' := Aside0.mk (HB.out.trans hF.below); clear HV HB; have HV := HV'; have HB := HB'; clear HV' HB'; clear hV hF)
      | (go_at_call 11; (with_reducible refine (pick_calls n 70 _ HNF.out (by decide)).mono ?_); rintro e w4 ⟨rfl, ⟨nd, rfl⟩⟩; have hk := pk_range n 70 (by decide); generalize pk n 70 = N at hk ⊢; have HK := Aside0.mk hk; clear hk; have HV' := Aside0.mk (HV.out.drewN nd); have HB' := Aside0.mk (pw_below_drewN HB.out nd); clear HV HB; have HV := HV'; have HB := HB'; clear HV' HB')
      | (go_at_call 17; (have hC := stepA HV.out 0 rfl HB.out.size (by have := HK.out.2; omega) (rfl : (Dev.fresh 4).arm N = _); with_reducible refine hC.mono ?_; clear hC); rintro e w5 ⟨rfl, hV, hF⟩; have HV' := Aside0.mk (hV); have HB' := Aside0.mk (HB.out.trans hF.below); clear HV HB; have HV := HV'; have HB := HB'; clear HV' HB'; clear hV hF))
    go_loopw [9, 10] (fun v9 v10 wr => ∃ (i m : Nat) (D : Dev), v9 = .int .i64 (m : Int) ∧ v10 = .int .i64 (i : Int) ∧ i ≤ l.length ∧ m ≤ 2 * i ∧ Aside0 (St N m i D) ∧ Aside0 (Devs wr w.heap.size [(g1, D)]) ∧ Aside0 (Below w.heap.size w wr)) (fun _ v10 _ => l.length - (intOf v10).toNat)
    case atStart => exact ⟨0, 0, _, rfl, rfl, Nat.zero_le _, by omega, ⟨St.start HK.out.1⟩, ⟨HV.out⟩, HB⟩
    case round =>
      clear HV HB
      obtain ⟨i, m, D, rfl, rfl, hi, hm, HI, HV, HB⟩ := hrel
      have hjb : i ≤ 60 := by have := HLN.out; omega
      by_cases hlt : i < l.length
      · have HLT := Aside0.mk hlt
        obtain ⟨ad, A3, c3, rfl, hx0, hx1, hx2, hx3, _, _⟩ := Fn.at_T33 HR.out (i : Int) (by omega) (by omega)
        have hmem : Fn.rd_T33 l (i : Int) ∈ l := by unfold Fn.rd_T33; simp [List.getD, hlt]
        have HX := Aside0.mk (HFT.out _ hmem)
        clear hmem hx3
        generalize Fn.rd_T33 l (i : Int) = x at hx0 hx1 hx2 HX
        simp only [Int.toNat_natCast] at hx0 hx1 hx2
        have HX0 := Aside0.mk hx0
        have HX1 := Aside0.mk hx1
        have HX2 := Aside0.mk hx2
        clear hx0 hx1 hx2
        obtain ⟨e1, D1, hf, hS1, hc1⟩ := HI.out.flush
        have HF := Aside0.mk hf
        have HS1 := Aside0.mk hS1
        clear hf hS1
        by_cases ho : pk x.f0 10 = 6
        · have ho1 : (pk x.f0 10 == 6) = true := beq_iff_eq.mpr ho
          have HO := Aside0.mk ho
          clear ho
          rcases hc1 with ⟨rfl, hle⟩ | ⟨rfl, hle⟩
          · have hdn : D1.down = false := by rw [HS1.out.down, decide_eq_false (by omega)]
            go_wp2_with (first
              | (go_at_call 14; (have hC := stepF HV.out 0 rfl HB.out.size HF.out (by have := HI.out.pend; omega); with_reducible refine hC.mono ?_; clear hC); rintro e w6 ⟨rfl, hV, hF⟩; have HV' := Aside0.mk (hV); have HB' := Aside0.mk (HB.out.trans hF.below); clear HV HB; have HV := HV'; have HB := HB'; clear HV' HB'; clear hV hF; have hx0 := (HB.out.cell (World.block_lt_of_cell? w _ HX0.out)).trans HX0.out)
              | (go_at_call 11; (with_reducible refine (pick_calls x.f0 10 _ HX.out.1 (by decide)).mono ?_); rintro e w7 ⟨rfl, ⟨nd, rfl⟩⟩; have HV' := Aside0.mk (HV.out.drewN nd); have HB' := Aside0.mk (pw_below_drewN HB.out nd); clear HV HB; have HV := HV'; have HB := HB'; clear HV' HB')
              | (go_at_call 18; (have hC := dDown HV.out 0 rfl; rw [hdn] at hC; with_reducible refine hC.mono ?_; clear hC); rintro e w8 ⟨rfl, ⟨nd2, rfl⟩⟩; have HV' := Aside0.mk (HV.out.drewN nd2); have HB' := Aside0.mk (pw_below_drewN HB.out nd2); clear HV HB; have HV := HV'; have HB := HB'; clear HV' HB'))
            go_roundw
            case rel => exact ⟨i + 1, m + 1, D1, by go_num, by go_num, by have := HLT.out; omega, by omega, ⟨HS1.out.more⟩, ⟨HV.out.step (fun _ _ _ _ _ _ => rfl)⟩, ⟨⟨HB.out.os, HB.out.tape, HB.out.output, HB.out.size, HB.out.block⟩⟩⟩
            case measure => have := HLT.out; simp [intOf]; omega
          · have hdn : D1.down = true := by rw [HS1.out.down, decide_eq_true (by omega)]
            go_wp2_with (first
              | (go_at_call 14; (have hC := stepF HV.out 0 rfl HB.out.size HF.out (by have := HI.out.pend; omega); with_reducible refine hC.mono ?_; clear hC); rintro e w6 ⟨rfl, hV, hF⟩; have HV' := Aside0.mk (hV); have HB' := Aside0.mk (HB.out.trans hF.below); clear HV HB; have HV := HV'; have HB := HB'; clear HV' HB'; clear hV hF; have hx0 := (HB.out.cell (World.block_lt_of_cell? w _ HX0.out)).trans HX0.out)
              | (go_at_call 11; (with_reducible refine (pick_calls x.f0 10 _ HX.out.1 (by decide)).mono ?_); rintro e w7 ⟨rfl, ⟨nd, rfl⟩⟩; have HV' := Aside0.mk (HV.out.drewN nd); have HB' := Aside0.mk (pw_below_drewN HB.out nd); clear HV HB; have HV := HV'; have HB := HB'; clear HV' HB')
              | (go_at_call 18; (have hC := dDown HV.out 0 rfl; rw [hdn] at hC; with_reducible refine hC.mono ?_; clear hC); rintro e w8 ⟨rfl, ⟨nd2, rfl⟩⟩; have HV' := Aside0.mk (HV.out.drewN nd2); have HB' := Aside0.mk (pw_below_drewN HB.out nd2); clear HV HB; have HV := HV'; have HB := HB'; clear HV' HB'))
            go_roundw
            case rel => exact ⟨i + 1, m + 1, D1, by go_num, by go_num, by have := HLT.out; omega, by omega, ⟨HS1.out.more⟩, ⟨HV.out.step (fun _ _ _ _ _ _ => rfl)⟩, ⟨⟨HB.out.os, HB.out.tape, HB.out.output, HB.out.size, HB.out.block⟩⟩⟩
            case measure => have := HLT.out; simp [intOf]; omega
        · have ho1 : (pk x.f0 10 == 6) = false := beq_eq_false_iff_ne.mpr ho
          have ho2 : (pk x.f0 10 != 6) = true := bne_iff_ne.mpr ho
          clear ho
          have hk := pk_range x.f1 4 (by decide)
          obtain ⟨e2, D2, hw, hS2, hc2⟩ := HS1.out.write hk.1 hk.2 x.f2
          have HW := Aside0.mk hw
          have HS2 := Aside0.mk hS2
          clear hw hS2 hc1 hk
          go_wp2_with (first
            | (go_at_call 14; (have hC := stepF HV.out 0 rfl HB.out.size HF.out (by have := HI.out.pend; omega); with_reducible refine hC.mono ?_; clear hC); rintro e w6 ⟨rfl, hV, hF⟩; have HV' := Aside0.mk (hV); have HB' := Aside0.mk (HB.out.trans hF.below); clear HV HB; have HV := HV'; have HB := HB'; clear HV' HB'; clear hV hF; have hx0 := (HB.out.cell (World.block_lt_of_cell? w _ HX0.out)).trans HX0.out)
            | (go_at_call 11; (with_reducible refine (pick_calls x.f0 10 _ HX.out.1 (by decide)).mono ?_); rintro e w7 ⟨rfl, ⟨nd, rfl⟩⟩; have HV' := Aside0.mk (HV.out.drewN nd); have HB' := Aside0.mk (pw_below_drewN HB.out nd); clear HV HB; have HV := HV'; have HB := HB'; clear HV' HB'))
          have HCC := Aside0.mk (fun V (hV : Below w.heap.size w V) => And.intro ((hV.cell (World.block_lt_of_cell? w _ HX1.out)).trans HX1.out) ((hV.cell (World.block_lt_of_cell? w _ HX2.out)).trans HX2.out))
          go_region_held3 (fun V => V.cell? ⟨(ad.add (i * 4)).block, (ad.add (i * 4)).off + 1, none⟩ = some (.int .i64 x.f1) ∧ V.cell? ⟨(ad.add (i * 4)).block, (ad.add (i * 4)).off + 2, none⟩ = some (.int .i64 x.f2))
            (first | exact hd3 | exact hd2 | exact HCC.out _ ⟨HB.out.os, HB.out.tape, HB.out.output, HB.out.size, HB.out.block⟩) (first
            | (go_at_call 11; (with_reducible refine (pick_calls x.f1 4 _ HX.out.2 (by decide)).mono ?_); rintro e w7 ⟨rfl, ⟨nd3, rfl⟩⟩)
            | (go_at_call 13; (with_reducible refine (sector_calls _ _).mono ?_); rintro e V2 ⟨rfl, hb2⟩; have hb3 : Below (w6.drewN nd).heap.size (w6.drewN nd) V2 := ⟨hb2.os, hb2.tape, hb2.output, hb2.size, hb2.block⟩; have hV2 := HV.out.below hb3; have hB2 := HB.out.trans (hb3.mono HB.out.size); have hd2 := HCC.out V2 hB2)
            | (go_at_call 12; (have hC := stepW hV2 0 rfl hB2.size HW.out (by have := HS1.out.pend; omega); refine hC.mono ?_; clear hC); rintro e V3 ⟨rfl, hV3, hF3⟩; have hB3 := hB2.trans hF3.below; have hd3 := HCC.out V3 hB3))
          clear HV HB
          have HV := Aside0.mk hV3
          have HB := Aside0.mk hB3
          clear HCC hd2 hd3 hV2 hV3 hB2 hB3 hb2 hb3 hF3
          rcases hc2 with ⟨rfl, hle⟩ | ⟨rfl, hle⟩
          · have hdn : D2.down = false := by rw [HS2.out.down, decide_eq_false (by omega)]
            go_wp2_with (first
              | (go_at_call 18; (have hC := dDown HV.out 0 rfl; rw [hdn] at hC; with_reducible refine hC.mono ?_; clear hC); rintro e w8 ⟨rfl, ⟨nd2, rfl⟩⟩; have HV' := Aside0.mk (HV.out.drewN nd2); have HB' := Aside0.mk (pw_below_drewN HB.out nd2); clear HV HB; have HV := HV'; have HB := HB'; clear HV' HB'))
            go_roundw
            case rel => exact ⟨i + 1, m + 2, D2, by go_num, by go_num, by have := HLT.out; omega, by omega, ⟨HS2.out⟩, ⟨HV.out⟩, ⟨HB.out⟩⟩
            case measure => have := HLT.out; simp [intOf]; omega
          · have hdn : D2.down = true := by rw [HS2.out.down, decide_eq_true (by omega)]
            go_wp2_with (first
              | (go_at_call 18; (have hC := dDown HV.out 0 rfl; rw [hdn] at hC; with_reducible refine hC.mono ?_; clear hC); rintro e w8 ⟨rfl, ⟨nd2, rfl⟩⟩; have HV' := Aside0.mk (HV.out.drewN nd2); have HB' := Aside0.mk (pw_below_drewN HB.out nd2); clear HV HB; have HV := HV'; have HB := HB'; clear HV' HB'))
            go_roundw
            case rel => exact ⟨i + 1, m + 2, D2, by go_num, by go_num, by have := HLT.out; omega, by omega, ⟨HS2.out⟩, ⟨HV.out⟩, ⟨HB.out⟩⟩
            case measure => have := HLT.out; simp [intOf]; omega
      · obtain rfl : i = l.length := by omega
        have hpl : (D.pend.length : Int) ≤ (l.length : Int) := by have := HI.out.pend; omega
        have hp1 := decide_eq_true hpl
        have hl4 := HI.out.len
        rcases HI.out.st with ⟨hd, hle, _⟩ | ⟨hd, hle⟩
        · have hwr : D.wrong 0 = 0 := by unfold Dev.wrong; rw [if_neg (by rw [hd]; decide), if_neg (by omega), if_neg (by omega)]
          go_wp2_with (first
            | (go_at_call 15; (have hC := dRead HV.out 0 rfl 0; rw [hwr] at hC; with_reducible refine hC.mono ?_; clear hC); rintro e w9 ⟨rfl, ⟨nd, rfl⟩⟩; have HV' := Aside0.mk (HV.out.drewN nd); have HB' := Aside0.mk (pw_below_drewN HB.out nd); clear HV HB; have HV := HV'; have HB := HB'; clear HV' HB')
            | (go_at_call 19; (have hC := dPending HV.out 0 rfl; with_reducible refine hC.mono ?_; clear hC); rintro e w10 ⟨rfl, ⟨nd2, rfl⟩⟩; have HV' := Aside0.mk (HV.out.drewN nd2); have HB' := Aside0.mk (pw_below_drewN HB.out nd2); clear HV HB; have HV := HV'; have HB := HB'; clear HV' HB'))
          go_ret
          exact ⟨by first | rfl | (simp; omega) | (simp [hpl]; done), ⟨HB.out.os, HB.out.tape, HB.out.output, HB.out.size, HB.out.block⟩⟩
        · have hwr : D.wrong 0 = 8 := by unfold Dev.wrong; rw [if_pos hd]
          go_wp2_with (first
            | (go_at_call 15; (have hC := dRead HV.out 0 rfl 0; rw [hwr] at hC; with_reducible refine hC.mono ?_; clear hC); rintro e w9 ⟨rfl, ⟨nd, rfl⟩⟩; have HV' := Aside0.mk (HV.out.drewN nd); have HB' := Aside0.mk (pw_below_drewN HB.out nd); clear HV HB; have HV := HV'; have HB := HB'; clear HV' HB')
            | (go_at_call 19; (have hC := dPending HV.out 0 rfl; with_reducible refine hC.mono ?_; clear hC); rintro e w10 ⟨rfl, ⟨nd2, rfl⟩⟩; have HV' := Aside0.mk (HV.out.drewN nd2); have HB' := Aside0.mk (pw_below_drewN HB.out nd2); clear HV HB; have HV := HV'; have HB := HB'; clear HV' HB'))
          go_ret
          exact ⟨by first | rfl | (simp; omega) | (simp [hpl]; done), ⟨HB.out.os, HB.out.tape, HB.out.output, HB.out.size, HB.out.block⟩⟩
end Go.Proofs.Ytakpedenoocmpaa.Dv
