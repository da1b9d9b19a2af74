import Derived.Test.YtakpedenoocmpaaDvOrder0
/-! DevOrder's body. -/
namespace Go.Proofs.Ytakpedenoocmpaa.Dv
open Go.RowKit Go.Proofs.YtakpedenoocmpaaW.PrintWords Go.Proofs.YtakpedenoocmpaaW.PrintLast Go.Proofs.YtakpedenoocmpaaW.PrintMore
attribute [local go_sem] max2_int min2_int max_two min_two max_three min_three max_four min_four
set_option linter.unusedVariables false
set_option linter.unusedSimpArgs false

theorem infoI : (Try.prog.info? 3).map (fun i => (i.zero, i.size, i.bytes)) = some (some (.int .i64 0), 1, 8) := by kernel_rfl
attribute [local irreducible] sec blankS Dev.write Dev.flush Dev.power Dev.arm Dev.fresh mk Dev.put wrote
set_option maxHeartbeats 2000000 in
set_option maxRecDepth 100000 in
theorem DevOrder_calls (A : Option Addr) (c : Nat) (l : List Fn.S33) (many : Int) (w : World) (hr : Kd.C Fn.k33 w A l.length l) (hc : l.length ≤ c) (hfit : ∀ x, x ∈ l → -9223372036854775808 ≤ x.f1) (hn : -9223372036854775808 ≤ many) :
    Calls Try.prog 4 #[.slice A l.length c, .int .i64 many] w fun e w' => e = .returned (.bool true) ∧ Below w.heap.size w w' := by
  have HR := Aside0.mk hr
  have HC := Aside0.mk hc
  have HFT := Aside0.mk hfit
  have HNF := Aside0.mk hn
  have HV := Aside0.mk (Devs.nil w w.heap.size)
  have HB := Aside0.mk (Below.refl w.heap.size w)
  clear hr hc hfit hn
  cases hsm : isSmall l with
  | false =>
    go_enter Try.func4, Try.ntmps4
    go_wp2_with (first
      | (go_at_call 8; (with_reducible refine (shown_calls _).mono ?_); rintro e w' ⟨rfl, hb⟩; have HV' := Aside0.mk (HV.out.below hb); have HB' := Aside0.mk hb; clear hb HV HB; have HV := HV'; have HB := HB'; clear HV' HB')
      | (go_at_call 9; (have hC := small_calls A c l w' (Kd.C_below HR.out HB.out) HC.out; rw [hsm] at hC; with_reducible refine hC.mono ?_; clear hC); rintro e w2 ⟨rfl, ⟨nd, rfl⟩⟩; have HV' := Aside0.mk (HV.out.drewN nd); have HB' := Aside0.mk (pw_below_drewN HB.out nd); clear HV HB; have HV := HV'; have HB := HB'; clear HV' HB'))
    go_ret
    exact ⟨rfl, HB.out⟩
  | true =>
    have hlen : l.length ≤ 60 := by
      unfold isSmall at hsm
      simp at hsm
      exact hsm.1
    have HLN := Aside0.mk hlen
    go_enter Try.func4, Try.ntmps4
    go_wp2_with (first
      | (go_at_call 8; (with_reducible refine (shown_calls _).mono ?_); rintro e w' ⟨rfl, hb⟩; have HV' := Aside0.mk (HV.out.below hb); have HB' := Aside0.mk hb; clear hb HV HB; have HV := HV'; have HB := HB'; clear HV' HB')
      | (go_at_call 9; (have hC := small_calls A c l w' (Kd.C_below HR.out HB.out) HC.out; rw [hsm] at hC; with_reducible refine hC.mono ?_; clear hC); rintro e w2 ⟨rfl, ⟨nd, rfl⟩⟩; have HV' := Aside0.mk (HV.out.drewN nd); have HB' := Aside0.mk (pw_below_drewN HB.out nd); clear HV HB; have HV := HV'; have HB := HB'; clear HV' HB')
      | (go_at_call 10; (have hq_ := g1; clear hq_); (have hC := stepN HV.out HB.out.size 4 (x := 4) rfl (by decide) (by decide); with_reducible refine hC.mono ?_; clear hC); rintro e w4 ⟨g2, rfl, hV, hF⟩; have HV' := Aside0.mk (hV); have HB' := Aside0.mk (HB.out.trans hF.below); clear HV HB; have HV := HV'; have HB := HB'; clear HV' HB'; clear hV hF)
      | (go_at_call 10; (have hC := stepN HV.out HB.out.size 4 (x := 4) rfl (by decide) (by decide); with_reducible refine hC.mono ?_; clear hC); rintro e w3 ⟨g1, rfl, hV, hF⟩; have HV' := Aside0.mk (hV); have HB' := Aside0.mk (HB.out.trans hF.below); clear HV HB; have HV := HV'; have HB := HB'; clear HV' HB'; clear hV hF)
      | (go_at_call 11; (with_reducible refine (pick_calls many _ _ HNF.out (by omega)).mono ?_); rintro e w5 ⟨rfl, ⟨nd, rfl⟩⟩; have HV' := Aside0.mk (HV.out.drewN nd); have HB' := Aside0.mk (pw_below_drewN HB.out nd); clear HV HB; have HV := HV'; have HB := HB'; clear HV' HB'))
    have hk := pk_range many ((l.length : Int) + 1) (by omega)
    generalize pk many ((l.length : Int) + 1) = N at hk ⊢
    obtain ⟨m, rfl⟩ : ∃ m : Nat, N = (m : Int) := ⟨N.toNat, by omega⟩
    have HM := Aside0.mk (show m ≤ l.length by omega)
    clear hk
    go_loopw [12, 13] (fun v12 v13 wr => ∃ (i : Nat), v13 = .int .i64 (i : Int) ∧ i ≤ l.length ∧ Aside0 (Own wr w.heap.size v12 (List.replicate (min i m) 1)) ∧ Aside0 (Devs wr w.heap.size [(g1, wrote (List.replicate 4 blankS) ((opsOf 4 l).take i)), (g2, wrote (List.replicate 4 blankS) ((opsOf 4 l).take (min i m)))]) ∧ Aside0 (Below w.heap.size w wr)) (fun _ v13 _ => l.length - (intOf v13).toNat)
    case atStart => exact ⟨0, rfl, Nat.zero_le _, ⟨by rw [Nat.zero_min]; exact Kd.R_nil _ _ _ _ _⟩, ⟨by rw [Nat.zero_min]; have h := HV.out; rw [wrote_fresh] at h; exact h⟩, HB⟩
    case round =>
      clear HV HB
      obtain ⟨i, rfl, hi, HO, HV, HB⟩ := hrel
      by_cases hlt : i < l.length
      · have HLT := Aside0.mk hlt
        have hjb : i ≤ 60 := by omega
        obtain ⟨ad, A3, c3, rfl, hx0, hx1, hx2, hx3, _, _⟩ := Fn.at_T33 HR.out (i : Int) (by omega) (by omega)
        have hmem : Fn.rd_T33 l (i : Int) ∈ l := by unfold Fn.rd_T33; simp [List.getD, hlt]
        have HX := Aside0.mk (HFT.out _ hmem)
        have HS := Aside0.mk (opsOf_succ 4 l i hlt)
        clear hmem hx0 hx3
        generalize Fn.rd_T33 l (i : Int) = x at hx1 hx2 HX HS
        simp only [Int.toNat_natCast] at hx1 hx2
        have HX1 := Aside0.mk hx1
        have HX2 := Aside0.mk hx2
        clear hx1 hx2
        have hk := pk_range x.f1 4 (by decide)
        have HW1 := Aside0.mk (wrote_write (List.replicate 4 blankS) ((opsOf 4 l).take i) (pk x.f1 4) hk.1 (by simpa using hk.2) x.f2)
        rw [← HS.out] at HW1
        have HCC := Aside0.mk (fun V (hV : Below w.heap.size w V) => And.intro ((hV.cell (World.block_lt_of_cell? w _ HX1.out)).trans HX1.out) ((hV.cell (World.block_lt_of_cell? w _ HX2.out)).trans HX2.out))
        by_cases him : i < m
        · have HIM := Aside0.mk him
          have him1 := decide_eq_true him
          have HW2 := HW1
          have hmn : min i m = i := by omega
          rw [hmn] at HO HV
          clear hk him hmn
          go_wp2
          go_region_held3 (fun V => V.cell? ⟨(ad.add (i * 4)).block, (ad.add (i * 4)).off + 1, none⟩ = some (.int .i64 x.f1) ∧ V.cell? ⟨(ad.add (i * 4)).block, (ad.add (i * 4)).off + 2, none⟩ = some (.int .i64 x.f2))
            (first | exact hd3a | exact hd2a | exact HCC.out _ ⟨HB.out.os, HB.out.tape, HB.out.output, HB.out.size, HB.out.block⟩) (first
            | (go_at_call 11; (with_reducible refine (pick_calls x.f1 4 _ HX.out (by decide)).mono ?_); rintro e w7 ⟨rfl, ⟨nd3a, rfl⟩⟩)
            | (go_at_call 13; (with_reducible refine (sector_calls _ _).mono ?_); rintro e V2a ⟨rfl, hb2⟩; have hb3 : Below wr.heap.size wr V2a := ⟨hb2.os, hb2.tape, hb2.output, hb2.size, hb2.block⟩; have hV2a := HV.out.below hb3; have hB2a := HB.out.trans (hb3.mono HB.out.size); have hO2a := HO.out.below hb3; have hd2a := HCC.out V2a hB2a; clear hb2)
            | (go_at_call 12; (have hC := stepW hV2a 0 rfl hB2a.size HW1.out (by have := HLN.out; simp [wrote, opsOf]; omega); refine hC.mono ?_; clear hC); rintro e V3a ⟨rfl, hV3a, hF3⟩; have hB3a := hB2a.trans hF3.below; have hO3a := hO2a.fr hF3; have hd3a := HCC.out V3a hB3a; clear hF3))
          clear HV HB HO
          have HV := Aside0.mk hV3a
          have HB := Aside0.mk hB3a
          have HO := Aside0.mk hO3a
          clear hd2a hd3a hV2a hV3a hB2a hB3a hO2a hO3a hb3
          go_wp2
          go_region_held3 (fun V => V.cell? ⟨(ad.add (i * 4)).block, (ad.add (i * 4)).off + 1, none⟩ = some (.int .i64 x.f1) ∧ V.cell? ⟨(ad.add (i * 4)).block, (ad.add (i * 4)).off + 2, none⟩ = some (.int .i64 x.f2))
            (first | exact hd3b | exact hd2b | exact HCC.out _ ⟨HB.out.os, HB.out.tape, HB.out.output, HB.out.size, HB.out.block⟩) (first
            | (go_at_call 11; (with_reducible refine (pick_calls x.f1 4 _ HX.out (by decide)).mono ?_); rintro e w7 ⟨rfl, ⟨nd3b, rfl⟩⟩)
            | (go_at_call 13; (with_reducible refine (sector_calls _ _).mono ?_); rintro e V2b ⟨rfl, hb2⟩; have hb3 : Below V3a.heap.size V3a V2b := ⟨hb2.os, hb2.tape, hb2.output, hb2.size, hb2.block⟩; have hV2b := HV.out.below hb3; have hB2b := HB.out.trans (hb3.mono HB.out.size); have hO2b := HO.out.below hb3; have hd2b := HCC.out V2b hB2b; clear hb2)
            | (go_at_call 12; (have hC := stepW hV2b 1 rfl hB2b.size HW2.out (by have := HLN.out; simp [wrote, opsOf]; omega); refine hC.mono ?_; clear hC); rintro e V3b ⟨rfl, hV3b, hF3⟩; have hB3b := hB2b.trans hF3.below; have hO3b := hO2b.fr hF3; have hd3b := HCC.out V3b hB3b; clear hF3))
          clear HV HB HO
          have HV := Aside0.mk hV3b
          have HB := Aside0.mk hB3b
          have HO := Aside0.mk hO3b
          clear hd2b hd3b hV2b hV3b hB2b hB3b hO2b hO3b hb3
          go_wp2_with (first
            | ((with_reducible refine gate_builtin (b := .append) (xs := #[.tmp 85, .tmp 86]) rfl ?_); at_builtin; refine Kd.R_append (Kd.int .i64) (w0 := w) w.heap.size rfl (.tmp 85) (.tmp 86) 29 3 (.int .i64 0) 8 rfl Try.underlying29 infoI rfl (by decide) (by decide) _ (List.replicate i 1) 1 [.int .i64 1] (fun _ => True) (fun _ => False) rfl ?aX rfl (fun _ h => h.elim) (fun _ _ => trivial) HO.out HB.out HB.out.size (by have := HLN.out; rw [List.length_replicate]; omega) ?_; (case aX => rfl); intro v1 wz ho hB2 hg2 _))
          go_roundw
          case rel =>
            have hm1 : min (i + 1) m = i + 1 := by have := HIM.out; omega
            refine ⟨i + 1, by go_num, by have := HLT.out; omega, ⟨?_⟩, ⟨?_⟩, ⟨hB2⟩⟩
            · rw [hm1, List.replicate_succ']
              exact ho
            · rw [hm1]
              exact HV.out.grown HO.out hg2
          case measure => have := HLT.out; simp [intOf]; omega
        · have HIM := Aside0.mk him
          have him1 := decide_eq_false him
          have hmn : min i m = m := by omega
          rw [hmn] at HO HV
          clear hk him hmn
          go_wp2
          go_region_held3 (fun V => V.cell? ⟨(ad.add (i * 4)).block, (ad.add (i * 4)).off + 1, none⟩ = some (.int .i64 x.f1) ∧ V.cell? ⟨(ad.add (i * 4)).block, (ad.add (i * 4)).off + 2, none⟩ = some (.int .i64 x.f2))
            (first | exact hd3a | exact hd2a | exact HCC.out _ ⟨HB.out.os, HB.out.tape, HB.out.output, HB.out.size, HB.out.block⟩) (first
            | (go_at_call 11; (with_reducible refine (pick_calls x.f1 4 _ HX.out (by decide)).mono ?_); rintro e w7 ⟨rfl, ⟨nd3a, rfl⟩⟩)
            | (go_at_call 13; (with_reducible refine (sector_calls _ _).mono ?_); rintro e V2a ⟨rfl, hb2⟩; have hb3 : Below wr.heap.size wr V2a := ⟨hb2.os, hb2.tape, hb2.output, hb2.size, hb2.block⟩; have hV2a := HV.out.below hb3; have hB2a := HB.out.trans (hb3.mono HB.out.size); have hO2a := HO.out.below hb3; have hd2a := HCC.out V2a hB2a; clear hb2)
            | (go_at_call 12; (have hC := stepW hV2a 0 rfl hB2a.size HW1.out (by have := HLN.out; simp [wrote, opsOf]; omega); refine hC.mono ?_; clear hC); rintro e V3a ⟨rfl, hV3a, hF3⟩; have hB3a := hB2a.trans hF3.below; have hO3a := hO2a.fr hF3; have hd3a := HCC.out V3a hB3a; clear hF3))
          clear HV HB HO
          have HV := Aside0.mk hV3a
          have HB := Aside0.mk hB3a
          have HO := Aside0.mk hO3a
          clear hd2a hd3a hV2a hV3a hB2a hB3a hO2a hO3a hb3
          go_wp2
          go_roundw
          case rel =>
            have hm1 : min (i + 1) m = m := by have := HIM.out; omega
            exact ⟨i + 1, by go_num, by have := HLT.out; omega, ⟨by rw [hm1]; exact HO.out⟩, ⟨by rw [hm1]; exact HV.out⟩, HB⟩
          case measure => have := HLT.out; simp [intOf]; omega
      · obtain rfl : i = l.length := by omega
        have hmn : min l.length m = m := by have := HM.out; omega
        rw [hmn, List.take_of_length_le (by simp [opsOf])] at HV
        rw [hmn] at HO
        obtain ⟨A4, c4, rfl⟩ := HO.out.slice
        have HK := Aside0.mk HO.out.reads
        have HPW := Aside0.mk (wrote_power' (List.replicate 4 blankS) (opsOf 4 l) m)
        have hl0 : (List.replicate 4 blankS).length = 4 := List.length_replicate
        have HGE := Aside0.mk (fun (k : Nat) (hk : k < 4) => wrote_get (List.replicate 4 blankS) ((opsOf 4 l).take m) k (by omega))
        have HGD := Aside0.mk (fun (k : Nat) (hk : k < 4) => flat_get (laid (List.replicate 4 blankS) ((opsOf 4 l).take m)) k (by rw [laid_length]; omega))
        have HPL := Aside0.mk (show (wrote (List.replicate 4 blankS) (opsOf 4 l)).pend.length ≤ 1000000 by have := HLN.out; simp [wrote, opsOf]; omega)
        clear hl0 hmn
        generalize wrote (List.replicate 4 blankS) (opsOf 4 l) = D1 at HV HPW HPL
        generalize wrote (List.replicate 4 blankS) ((opsOf 4 l).take m) = D2 at HV HGE
        generalize hfl : flat (laid (List.replicate 4 blankS) ((opsOf 4 l).take m)) = D3 at HPW HGD
        clear hfl
        generalize rdOf ByteArray.empty (laid (List.replicate 4 blankS) ((opsOf 4 l).take m)) = rs at HGE HGD
        have HKL := Aside0.mk (List.length_replicate (n := m) (a := (1 : Int)))
        generalize List.replicate m (1 : Int) = keep at HO HK HPW HKL ⊢
        go_wp2_with (first
          | (go_at_call 16; (have hC := dPower HV.out 0 rfl HB.out.size HPL.out A4 keep c4 (fun W' hF => HO.out.fr hF |>.reads); rw [HPW.out] at hC; with_reducible refine hC.mono ?_; clear hC); rintro e w9 ⟨rfl, hV, hF⟩; have HV' := Aside0.mk (hV); have HB' := Aside0.mk (HB.out.trans hF.below); clear HV HB; have HV := HV'; have HB := HB'; clear HV' HB'; clear hV hF))
        go_loopw [14] (fun v14 wr => ∃ (j : Nat), v14 = .int .i64 (j : Int) ∧ j ≤ 4 ∧ Aside0 (Devs wr w.heap.size [(g1, D3), (g2, D2)]) ∧ Aside0 (Below w.heap.size w wr)) (fun v14 _ => 4 - (intOf v14).toNat)
        case atStart => exact ⟨0, rfl, by omega, ⟨HV.out⟩, HB⟩
        case round =>
          clear HV HB
          obtain ⟨j, rfl, hj, HV, HB⟩ := hrel
          by_cases hlt : j < 4
          · have HJ := Aside0.mk hlt
            have hgd := HGD.out j hlt
            have hge := HGE.out j hlt
            generalize rs (j : Int) = s at hgd hge
            have HGD' := Aside0.mk hgd
            have HGE' := Aside0.mk hge
            clear hgd hge
            go_wp2_with (first
              | (go_at_call 15; (have hC := stepR HV.out 0 rfl HGD'.out; with_reducible refine hC.mono ?_; clear hC); rintro e w10 ⟨rfl, ⟨nd, rfl⟩⟩; have HV' := Aside0.mk (HV.out.drewN nd); have HB' := Aside0.mk (pw_below_drewN HB.out nd); clear HV HB; have HV := HV'; have HB := HB'; clear HV' HB')
              | (go_at_call 15; (have hC := stepR HV.out 1 rfl HGE'.out; with_reducible refine hC.mono ?_; clear hC); rintro e w11 ⟨rfl, ⟨nd2, rfl⟩⟩; have HV' := Aside0.mk (HV.out.drewN nd2); have HB' := Aside0.mk (pw_below_drewN HB.out nd2); clear HV HB; have HV := HV'; have HB := HB'; clear HV' HB'))
            go_roundw
            case rel => exact ⟨j + 1, by go_num, by have := HJ.out; omega, ⟨HV.out.step (fun _ _ _ _ _ _ => rfl)⟩, ⟨⟨HB.out.os, HB.out.tape, HB.out.output, HB.out.size, HB.out.block⟩⟩⟩
            case measure => have := HJ.out; simp [intOf]; omega
          · obtain rfl : j = 4 := by omega
            go_wp2
            go_ret
            exact ⟨rfl, HB.out⟩
end Go.Proofs.Ytakpedenoocmpaa.Dv
