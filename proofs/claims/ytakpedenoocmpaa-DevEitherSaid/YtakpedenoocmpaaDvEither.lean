import Derived.Test.YtakpedenoocmpaaDvEither0
/-! DevEither's body. -/
namespace Go.Proofs.Ytakpedenoocmpaa.Dv
open Go.RowKit Go.Proofs.YtakpedenoocmpaaW.PrintWords Go.Proofs.YtakpedenoocmpaaW.PrintLast Go.Proofs.YtakpedenoocmpaaW.PrintMore
attribute [local go_sem] max2_int min2_int max_two min_two max_three min_three max_four min_four
set_option linter.unusedVariables false
set_option linter.unusedSimpArgs false

theorem infoI : (Try.prog.info? 3).map (fun i => (i.zero, i.size, i.bytes)) = some (some (.int .i64 0), 1, 8) := by kernel_rfl
attribute [local irreducible] sec blankS Dev.write Dev.flush Dev.power Dev.arm Dev.fresh mk Dev.put wrote flat found
set_option maxHeartbeats 2000000 in
set_option maxRecDepth 100000 in
theorem DevEither_calls (Al : Option Addr) (cl : Nat) (l : List Fn.S33) (Ak : Option Addr) (ck : Nat) (k : List Fn.S33) (Ap : Option Addr) (cp : Nat) (keep : List Int) (w : World) (hrl : Kd.C Fn.k33 w Al l.length l) (hcl : l.length ≤ cl) (hfl : ∀ x, x ∈ l → -9223372036854775808 ≤ x.f1) (hrk : Kd.C Fn.k33 w Ak k.length k) (hck : k.length ≤ ck) (hfk : ∀ x, x ∈ k → -9223372036854775808 ≤ x.f1) (hkp : (Kd.int .i64).C w Ap keep.length keep) :
    Calls Try.prog 6 #[.slice Al l.length cl, .slice Ak k.length ck, .slice Ap keep.length cp] w fun e w' => e = .returned (.bool true) ∧ Below w.heap.size w w' := by
  have HRl := Aside0.mk hrl
  have HCl := Aside0.mk hcl
  have HFTl := Aside0.mk hfl
  have HRk := Aside0.mk hrk
  have HCk := Aside0.mk hck
  have HFTk := Aside0.mk hfk
  have HKP := Aside0.mk hkp
  have HV := Aside0.mk (Devs.nil w w.heap.size)
  have HB := Aside0.mk (Below.refl w.heap.size w)
  clear hrl hcl hfl hrk hck hfk hkp
  by_cases hsm : isSmall l = true ∧ isSmall k = true ∧ keep.length ≤ 100
  · obtain ⟨hsl, hsk, hkl⟩ := hsm
    have hlen : l.length ≤ 60 := by
      unfold isSmall at hsl
      simp at hsl
      exact hsl.1
    have HLNl := Aside0.mk hlen
    have hlek : k.length ≤ 60 := by
      unfold isSmall at hsk
      simp at hsk
      exact hsk.1
    have HLNk := Aside0.mk hlek
    have hkl1 := decide_eq_false (show ¬ (100 : Int) < (keep.length : Int) by omega)
    have HLL := Aside0.mk (List.length_replicate (n := 5) (a := blankS))
    clear hkl hlen hlek
    go_enter Try.func6, Try.ntmps6
    go_wp2_with (first
      | (go_at_call 8; (with_reducible refine (shown_calls _).mono ?_); rintro e w' ⟨rfl, hb⟩; have HV' := Aside0.mk (HV.out.below hb); have HB' := Aside0.mk hb; clear hb HV HB; have HV := HV'; have HB := HB'; clear HV' HB')
      | (go_at_call 9; (have hC := small_calls Al cl l _ (Kd.C_below HRl.out HB.out) HCl.out; rw [hsl] at hC; with_reducible refine hC.mono ?_; clear hC); rintro e w2 ⟨rfl, hd⟩; have HV' := Aside0.mk (HV.out.drawn hd); have HB' := Aside0.mk (below_drawn HB.out hd); clear HV HB; have HV := HV'; have HB := HB'; clear HV' HB'; clear hd)
      | (go_at_call 9; (have hC := small_calls Ak ck k _ (Kd.C_below HRk.out HB.out) HCk.out; rw [hsk] at hC; with_reducible refine hC.mono ?_; clear hC); rintro e w4 ⟨rfl, hd⟩; have HV' := Aside0.mk (HV.out.drawn hd); have HB' := Aside0.mk (below_drawn HB.out hd); clear HV HB; have HV := HV'; have HB := HB'; clear HV' HB'; clear hd)
      | (go_at_call 10; (have hC := stepN HV.out HB.out.size 5 (x := 5) rfl (by decide) (by decide); with_reducible refine hC.mono ?_; clear hC); rintro e w3 ⟨g1, rfl, hV, hF⟩; have HV' := Aside0.mk (hV); have HB' := Aside0.mk (HB.out.trans hF.below); clear HV HB; have HV := HV'; have HB := HB'; clear HV' HB'; clear hV hF))
    go_loopw [12] (fun v12 wr => ∃ (i : Nat), v12 = .int .i64 (i : Int) ∧ i ≤ l.length ∧ Aside0 (Devs wr w.heap.size [(g1, wrote (List.replicate 5 blankS) ((opsOf 5 l).take i))]) ∧ Aside0 (Below w.heap.size w wr)) (fun v12 _ => l.length - (intOf v12).toNat)
    case atStart => exact ⟨0, rfl, Nat.zero_le _, ⟨by have h := HV.out; rw [wrote_fresh] at h; exact h⟩, HB⟩
    case round =>
      clear HV HB
      obtain ⟨i, rfl, hi, HV, HB⟩ := hrel
      by_cases hlt : i < l.length
      · have HLT := Aside0.mk hlt
        have hjb : i ≤ 60 := by have := HLNl.out; omega
        obtain ⟨ad, A3, c3, hAe, hx0, hx1, hx2, hx3, _, _⟩ := Fn.at_T33 HRl.out (i : Int) (by omega) (by omega)
        subst hAe
        have hmem : Fn.rd_T33 l (i : Int) ∈ l := by unfold Fn.rd_T33; simp [List.getD, hlt]
        have HX := Aside0.mk (HFTl.out _ hmem)
        have HS := Aside0.mk (opsOf_succ 5 l i hlt)
        clear hmem hx0 hx3
        generalize Fn.rd_T33 l (i : Int) = x at hx1 hx2 HX HS
        simp only [Int.toNat_natCast] at hx1 hx2
        have HX1 := Aside0.mk hx1
        have HX2 := Aside0.mk hx2
        clear hx1 hx2
        have hk := pk_range x.f1 5 (by decide)
        have HW1 := Aside0.mk (wrote_write (List.replicate 5 blankS) ((opsOf 5 l).take i) (pk x.f1 5) hk.1 (by have := HLL.out; omega) x.f2)
        rw [← HS.out] at HW1
        have HCC := Aside0.mk (fun V (hV : Below w.heap.size w V) => And.intro ((hV.cell (World.block_lt_of_cell? w _ HX1.out)).trans HX1.out) ((hV.cell (World.block_lt_of_cell? w _ HX2.out)).trans HX2.out))
        clear hk
        go_wp2
        go_region_held3 (fun V => V.cell? ⟨(ad.add (i * 4)).block, (ad.add (i * 4)).off + 1, none⟩ = some (.int .i64 x.f1) ∧ V.cell? ⟨(ad.add (i * 4)).block, (ad.add (i * 4)).off + 2, none⟩ = some (.int .i64 x.f2))
          (first | exact hd3a | exact hd2a | exact HCC.out _ ⟨HB.out.os, HB.out.tape, HB.out.output, HB.out.size, HB.out.block⟩) (first
          | (go_at_call 11; (with_reducible refine (pick_calls x.f1 5 _ HX.out (by decide)).mono ?_); rintro e w7 ⟨rfl, ⟨nd3a, rfl⟩⟩)
          | (go_at_call 13; (with_reducible refine (sector_calls _ _).mono ?_); rintro e V2a ⟨rfl, hb2⟩; have hb3 : Below wr.heap.size wr V2a := ⟨hb2.os, hb2.tape, hb2.output, hb2.size, hb2.block⟩; have hV2a := HV.out.below hb3; have hB2a := HB.out.trans (hb3.mono HB.out.size); have hd2a := HCC.out V2a hB2a; clear hb2)
          | (go_at_call 12; (have hC := stepW hV2a 0 rfl hB2a.size HW1.out (by have := HLNl.out; simp [wrote, opsOf]; omega); refine hC.mono ?_; clear hC); rintro e V3a ⟨rfl, hV3a, hF3⟩; have hB3a := hB2a.trans hF3.below; have hd3a := HCC.out V3a hB3a; clear hF3))
        clear HV HB
        have HV := Aside0.mk hV3a
        have HB := Aside0.mk hB3a
        clear hd2a hd3a hV2a hV3a hB2a hB3a hb3
        go_wp2
        go_roundw
        case rel => exact ⟨i + 1, by go_num, by have := HLT.out; omega, HV, HB⟩
        case measure => have := HLT.out; simp [intOf]; omega
      · obtain rfl : i = l.length := by omega
        rw [List.take_of_length_le (by simp [opsOf])] at HV
        have HFL := Aside0.mk (wrote_flush (List.replicate 5 blankS) (opsOf 5 l))
        have HPL := Aside0.mk (show (wrote (List.replicate 5 blankS) (opsOf 5 l)).pend.length ≤ 1000000 by have := HLNl.out; simp [wrote, opsOf]; omega)
        replace HLL := Aside0.mk ((laid_length (opsOf 5 l) (List.replicate 5 blankS)).trans HLL.out)
        generalize wrote (List.replicate 5 blankS) (opsOf 5 l) = D0 at HV HFL HPL
        generalize laid (List.replicate 5 blankS) (opsOf 5 l) = L0 at HFL HLL
        go_wp2_with (first
          | (go_at_call 14; (have hC := stepF HV.out 0 rfl HB.out.size HFL.out HPL.out; with_reducible refine hC.mono ?_; clear hC); rintro e w5 ⟨rfl, hV, hF⟩; have HV' := Aside0.mk (hV); have HB' := Aside0.mk (HB.out.trans hF.below); clear HV HB; have HV := HV'; have HB := HB'; clear HV' HB'; clear hV hF)
          | (go_at_call 20; (have hC := dClone HV.out 0 rfl HB.out.size (by simp [wrote]); with_reducible refine hC.mono ?_; clear hC); rintro e w_g2 ⟨g2, rfl, hV, hF⟩; have HV' := Aside0.mk (hV); have HB' := Aside0.mk (HB.out.trans hF.below); clear HV HB; have HV := HV'; have HB := HB'; clear HV' HB'; clear hV hF))
        clear HFL HPL
        go_loopw [14, 15] (fun v14 v15 wr => ∃ (i : Nat), v15 = .int .i64 (i : Int) ∧ i ≤ k.length ∧ Aside0 (Own wr w.heap.size v14 (List.replicate i 1)) ∧ Aside0 (Devs wr w.heap.size [(g1, wrote L0 ((opsOf 5 k).take i)), (g2, wrote L0 [])]) ∧ Aside0 (Below w.heap.size w wr)) (fun _ v15 _ => k.length - (intOf v15).toNat)
        case atStart => exact ⟨0, rfl, Nat.zero_le _, ⟨Kd.R_nil _ _ _ _ _⟩, ⟨HV.out⟩, HB⟩
        case round =>
          clear HV HB
          obtain ⟨i, rfl, hi, HO, HV, HB⟩ := hrel
          by_cases hlt : i < k.length
          · have HLT := Aside0.mk hlt
            have hjb : i ≤ 60 := by have := HLNk.out; omega
            obtain ⟨ad, A3, c3, hAe, hx0, hx1, hx2, hx3, _, _⟩ := Fn.at_T33 HRk.out (i : Int) (by omega) (by omega)
            subst hAe
            have hmem : Fn.rd_T33 k (i : Int) ∈ k := by unfold Fn.rd_T33; simp [List.getD, hlt]
            have HX := Aside0.mk (HFTk.out _ hmem)
            have HS := Aside0.mk (opsOf_succ 5 k i hlt)
            clear hmem hx0 hx3
            generalize Fn.rd_T33 k (i : Int) = x at hx1 hx2 HX HS
            simp only [Int.toNat_natCast] at hx1 hx2
            have HX1 := Aside0.mk hx1
            have HX2 := Aside0.mk hx2
            clear hx1 hx2
            have hk := pk_range x.f1 5 (by decide)
            have HW1 := Aside0.mk (wrote_write (L0) ((opsOf 5 k).take i) (pk x.f1 5) hk.1 (by have := HLL.out; omega) x.f2)
            rw [← HS.out] at HW1
            have HCC := Aside0.mk (fun V (hV : Below w.heap.size w V) => And.intro ((hV.cell (World.block_lt_of_cell? w _ HX1.out)).trans HX1.out) ((hV.cell (World.block_lt_of_cell? w _ HX2.out)).trans HX2.out))
            clear hk
            go_wp2
            go_region_held3 (fun V => V.cell? ⟨(ad.add (i * 4)).block, (ad.add (i * 4)).off + 1, none⟩ = some (.int .i64 x.f1) ∧ V.cell? ⟨(ad.add (i * 4)).block, (ad.add (i * 4)).off + 2, none⟩ = some (.int .i64 x.f2))
              (first | exact hd3a | exact hd2a | exact HCC.out _ ⟨HB.out.os, HB.out.tape, HB.out.output, HB.out.size, HB.out.block⟩) (first
              | (go_at_call 11; (with_reducible refine (pick_calls x.f1 5 _ HX.out (by decide)).mono ?_); rintro e w7 ⟨rfl, ⟨nd3a, rfl⟩⟩)
              | (go_at_call 13; (with_reducible refine (sector_calls _ _).mono ?_); rintro e V2a ⟨rfl, hb2⟩; have hb3 : Below wr.heap.size wr V2a := ⟨hb2.os, hb2.tape, hb2.output, hb2.size, hb2.block⟩; have hV2a := HV.out.below hb3; have hB2a := HB.out.trans (hb3.mono HB.out.size); have hO2a := HO.out.below hb3; have hd2a := HCC.out V2a hB2a; clear hb2)
              | (go_at_call 12; (have hC := stepW hV2a 0 rfl hB2a.size HW1.out (by have := HLNk.out; simp [wrote, opsOf]; omega); refine hC.mono ?_; clear hC); rintro e V3a ⟨rfl, hV3a, hF3⟩; have hB3a := hB2a.trans hF3.below; have hO3a := hO2a.fr hF3; have hd3a := HCC.out V3a hB3a; clear hF3))
            clear HV HB HO
            have HV := Aside0.mk hV3a
            have HB := Aside0.mk hB3a
            have HO := Aside0.mk hO3a
            clear hd2a hd3a hV2a hV3a hB2a hB3a hO2a hO3a hb3
            go_wp2_with (first
              | ((with_reducible refine gate_builtin (b := .append) (xs := #[.tmp 103, .tmp 104]) rfl ?_); at_builtin; refine Kd.R_append (Kd.int .i64) (w0 := w) w.heap.size rfl (.tmp 103) (.tmp 104) 29 3 (.int .i64 0) 8 rfl Try.underlying29 infoI rfl (by decide) (by decide) _ (List.replicate i 1) 1 [.int .i64 1] (fun _ => True) (fun _ => False) rfl ?aX rfl (fun _ h => h.elim) (fun _ _ => trivial) HO.out HB.out HB.out.size (by have := HLNk.out; have := HLT.out; rw [List.length_replicate]; omega) ?_; (case aX => rfl); intro v1 wz ho hB2 hg2 _))
            go_roundw
            case rel =>
              refine ⟨i + 1, by go_num, by have := HLT.out; omega, ⟨?_⟩, ⟨HV.out.grown HO.out hg2⟩, ⟨hB2⟩⟩
              rw [List.replicate_succ']
              exact ho
            case measure => have := HLT.out; simp [intOf]; omega
          · obtain rfl : i = k.length := by omega
            rw [List.take_of_length_le (by simp [opsOf])] at HV
            obtain ⟨A4, c4, rfl⟩ := HO.out.slice
            have HPa := Aside0.mk (show (wrote L0 (opsOf 5 k)).power (List.replicate k.length 1) = flat (laid L0 (opsOf 5 k)) from by rw [wrote_power', List.take_of_length_le (by simp [opsOf])])
            have HPn := Aside0.mk (show (wrote L0 (opsOf 5 k)).power [] = flat L0 from by rw [wrote_pow]; cases opsOf 5 k <;> rfl)
            have HPk := Aside0.mk (wrote_pow L0 (opsOf 5 k) keep)
            have hK1 : (laid L0 (keptOf (opsOf 5 k) keep)).length = 5 := (laid_length _ _).trans HLL.out
            have hK2 : (laid L0 (opsOf 5 k)).length = 5 := (laid_length _ _).trans HLL.out
            have hK0 := HLL.out
            have HGd := Aside0.mk (fun (j : Nat) (hj : j < 5) => flat_get (laid L0 (keptOf (opsOf 5 k) keep)) j (by omega))
            have HGl := Aside0.mk (fun (j : Nat) (hj : j < 5) => wrote_get L0 [] j (by omega))
            have HGo := Aside0.mk (fun (j : Nat) (hj : j < 5) => flat_get (laid L0 (opsOf 5 k)) j (by omega))
            have HGt := Aside0.mk (fun (j : Nat) (hj : j < 5) => flat_get L0 j (by omega))
            have HGn := Aside0.mk (fun (j : Nat) (hj : j < 5) => wrote_get L0 (opsOf 5 k) j (by omega))
            have HFA := Aside0.mk (fun (j : Nat) => found_all L0 k keep (j : Int) (by omega))
            have HPL := Aside0.mk (show (wrote L0 (opsOf 5 k)).pend.length ≤ 1000000 by have := HLNk.out; simp [wrote, opsOf]; omega)
            have HEN := Aside0.mk (show (flat (laid L0 (keptOf (opsOf 5 k) keep))).pend.length = 0 ∧ (flat (laid L0 (keptOf (opsOf 5 k) keep))).down = false from by simp [flat])
            have HKL := Aside0.mk (List.length_replicate (n := k.length) (a := (1 : Int)))
            have e0 : laid L0 [] = L0 := rfl
            rw [e0] at HGl
            clear hK1 hK2 hK0 e0
            generalize List.replicate k.length (1 : Int) = ones at HO HPa HKL ⊢
            generalize wrote L0 (opsOf 5 k) = D1 at HV HPa HPn HPk HGn HPL
            generalize flat (laid L0 (keptOf (opsOf 5 k) keep)) = Dd at HPk HGd HEN
            generalize flat (laid L0 (opsOf 5 k)) = Do at HPa HGo
            generalize flat L0 = Dt at HPn HGt
            generalize wrote L0 [] = Dl at HV HGl
            generalize rdOf ByteArray.empty (laid L0 (keptOf (opsOf 5 k) keep)) = rs at HGd HFA
            generalize rdOf ByteArray.empty (laid L0 (opsOf 5 k)) = rb at HGo HGn
            generalize rdOf ByteArray.empty L0 = ra at HGl HGt HFA
            go_wp2_with (first
              | (go_at_call 20; (have hq_ := g4; clear hq_); (have hC := dClone HV.out 0 rfl HB.out.size HPL.out; with_reducible refine hC.mono ?_; clear hC); rintro e w_g5 ⟨g5, rfl, hV, hF⟩; have HV' := Aside0.mk (hV); have HB' := Aside0.mk (HB.out.trans hF.below); have HO' := Aside0.mk (HO.out.fr hF); clear HV HB HO; have HV := HV'; have HB := HB'; have HO := HO'; clear HV' HB' HO'; clear hV hF)
              | (go_at_call 20; (have hq_ := g3; clear hq_); (have hC := dClone HV.out 0 rfl HB.out.size HPL.out; with_reducible refine hC.mono ?_; clear hC); rintro e w_g4 ⟨g4, rfl, hV, hF⟩; have HV' := Aside0.mk (hV); have HB' := Aside0.mk (HB.out.trans hF.below); have HO' := Aside0.mk (HO.out.fr hF); clear HV HB HO; have HV := HV'; have HB := HB'; have HO := HO'; clear HV' HB' HO'; clear hV hF)
              | (go_at_call 20; (have hC := dClone HV.out 0 rfl HB.out.size HPL.out; with_reducible refine hC.mono ?_; clear hC); rintro e w_g3 ⟨g3, rfl, hV, hF⟩; have HV' := Aside0.mk (hV); have HB' := Aside0.mk (HB.out.trans hF.below); have HO' := Aside0.mk (HO.out.fr hF); clear HV HB HO; have HV := HV'; have HB := HB'; have HO := HO'; clear HV' HB' HO'; clear hV hF)
              | (go_at_call 16; (have hC := dPower HV.out 2 rfl HB.out.size HPL.out A4 ones c4 (fun W' hF => HO.out.fr hF |>.reads); rw [HPa.out] at hC; (try rw [List.length_nil] at hC); with_reducible refine hC.mono ?_; clear hC); rintro e w_p3 ⟨rfl, hV, hF⟩; have HV' := Aside0.mk (hV); have HB' := Aside0.mk (HB.out.trans hF.below); have HO' := Aside0.mk (HO.out.fr hF); clear HV HB HO; have HV := HV'; have HB := HB'; have HO := HO'; clear HV' HB' HO'; clear hV hF)
              | (go_at_call 16; (have hC := dPower HV.out 3 rfl HB.out.size HPL.out none [] 0 (fun W' hF => ⟨rfl, Nat.zero_le _, fun h => absurd h (by simp)⟩); rw [HPn.out] at hC; (try rw [List.length_nil] at hC); with_reducible refine hC.mono ?_; clear hC); rintro e w_p4 ⟨rfl, hV, hF⟩; have HV' := Aside0.mk (hV); have HB' := Aside0.mk (HB.out.trans hF.below); have HO' := Aside0.mk (HO.out.fr hF); clear HV HB HO; have HV := HV'; have HB := HB'; have HO := HO'; clear HV' HB' HO'; clear hV hF)
              | (go_at_call 16; (have hC := dPower HV.out 0 rfl HB.out.size HPL.out Ap keep cp (fun W' hF => Kd.C_below HKP.out (HB.out.trans hF.below)); rw [HPk.out] at hC; (try rw [List.length_nil] at hC); with_reducible refine hC.mono ?_; clear hC); rintro e w_p1 ⟨rfl, hV, hF⟩; have HV' := Aside0.mk (hV); have HB' := Aside0.mk (HB.out.trans hF.below); have HO' := Aside0.mk (HO.out.fr hF); clear HV HB HO; have HV := HV'; have HB := HB'; have HO := HO'; clear HV' HB' HO'; clear hV hF))
            go_loopw [19] (fun v19 wr => ∃ (j : Nat), v19 = .int .i64 (j : Int) ∧ j ≤ 5 ∧ Aside0 (Devs wr w.heap.size [(g1, Dd), (g2, Dl), (g3, Do), (g4, Dt), (g5, D1)]) ∧ Aside0 (Below w.heap.size w wr)) (fun v19 _ => 5 - (intOf v19).toNat)
            case atStart => exact ⟨0, rfl, by omega, ⟨HV.out⟩, HB⟩
            case round =>
              clear HV HB HO
              obtain ⟨j, rfl, hj, HV, HB⟩ := hrel
              by_cases hlt : j < 5
              · have HJ := Aside0.mk hlt
                have hgd := Aside0.mk (HGd.out j hlt)
                have hgl := Aside0.mk (HGl.out j hlt)
                have hgo := Aside0.mk (HGo.out j hlt)
                have hgt := Aside0.mk (HGt.out j hlt)
                have hgn := Aside0.mk (HGn.out j hlt)
                have HF := Aside0.mk (HFA.out j)
                generalize rs (j : Int) = s at hgd HF
                generalize ra (j : Int) = a at hgl hgt HF
                generalize rb (j : Int) = bb at hgo hgn
                go_wp2_with (first
                  | (go_at_call 15; (have hC := stepR HV.out 0 rfl hgd.out; with_reducible refine hC.mono ?_; clear hC); rintro e w_r0 ⟨rfl, hd⟩; have HV' := Aside0.mk (HV.out.drawn hd); have HB' := Aside0.mk (below_drawn HB.out hd); clear HV HB; have HV := HV'; have HB := HB'; clear HV' HB'; clear hd)
                  | (go_at_call 15; (have hC := stepR HV.out 1 rfl hgl.out; with_reducible refine hC.mono ?_; clear hC); rintro e w_r1 ⟨rfl, hd⟩; have HV' := Aside0.mk (HV.out.drawn hd); have HB' := Aside0.mk (below_drawn HB.out hd); clear HV HB; have HV := HV'; have HB := HB'; clear HV' HB'; clear hd)
                  | (go_at_call 15; (have hC := stepR HV.out 2 rfl hgo.out; with_reducible refine hC.mono ?_; clear hC); rintro e w_r2 ⟨rfl, hd⟩; have HV' := Aside0.mk (HV.out.drawn hd); have HB' := Aside0.mk (below_drawn HB.out hd); clear HV HB; have HV := HV'; have HB := HB'; clear HV' HB'; clear hd)
                  | (go_at_call 15; (have hC := stepR HV.out 3 rfl hgt.out; with_reducible refine hC.mono ?_; clear hC); rintro e w_r3 ⟨rfl, hd⟩; have HV' := Aside0.mk (HV.out.drawn hd); have HB' := Aside0.mk (below_drawn HB.out hd); clear HV HB; have HV := HV'; have HB := HB'; clear HV' HB'; clear hd)
                  | (go_at_call 15; (have hC := stepR HV.out 4 rfl hgn.out; with_reducible refine hC.mono ?_; clear hC); rintro e w_r4 ⟨rfl, hd⟩; have HV' := Aside0.mk (HV.out.drawn hd); have HB' := Aside0.mk (below_drawn HB.out hd); clear HV HB; have HV := HV'; have HB := HB'; clear HV' HB'; clear hd))
                go_loopw [30, 31] (fun v30 v31 wr => ∃ (i : Nat), v31 = .int .i64 (i : Int) ∧ i ≤ k.length ∧ v30 = .bool (found s (j : Int) (s.toList == a.toList) (k.take i)) ∧ Aside0 (Devs wr w.heap.size [(g1, Dd), (g2, Dl), (g3, Do), (g4, Dt), (g5, D1)]) ∧ Aside0 (Below w.heap.size w wr)) (fun _ v31 _ => k.length - (intOf v31).toNat)
                case atStart => exact ⟨0, rfl, by omega, by rw [List.take_zero, found_nil], ⟨HV.out⟩, HB⟩
                case round =>
                  clear HV HB
                  obtain ⟨i, rfl, hi, rfl, HV, HB⟩ := hrel
                  by_cases hlt : i < k.length
                  · have HLT := Aside0.mk hlt
                    have hjb : i ≤ 60 := by have := HLNk.out; omega
                    obtain ⟨ad, A3, c3, hAe, hx0, hx1, hx2, hx3, _, _⟩ := Fn.at_T33 HRk.out (i : Int) (by omega) (by omega)
                    subst hAe
                    have hmem : Fn.rd_T33 k (i : Int) ∈ k := by unfold Fn.rd_T33; simp [List.getD, hlt]
                    have HX := Aside0.mk (HFTk.out _ hmem)
                    have HS := Aside0.mk (found_succ s (j : Int) (s.toList == a.toList) k i hlt)
                    clear hmem hx0 hx3
                    generalize Fn.rd_T33 k (i : Int) = x at hx1 hx2 HX HS
                    simp only [Int.toNat_natCast] at hx1 hx2
                    have HX1 := Aside0.mk hx1
                    have HX2 := Aside0.mk hx2
                    clear hx1 hx2
                    have HCC := Aside0.mk (fun V (hV : Below w.heap.size w V) => And.intro ((hV.cell (World.block_lt_of_cell? w _ HX1.out)).trans HX1.out) ((hV.cell (World.block_lt_of_cell? w _ HX2.out)).trans HX2.out))
                    cases hf : found s (j : Int) (s.toList == a.toList) (k.take i) with
                    | true =>
                      rw [hf] at HS
                      have hE := HS.out
                      rw [Bool.true_or] at hE
                      have HE := Aside0.mk hE
                      clear hE HS
                      go_wp2
                      go_roundw
                      case rel => exact ⟨i + 1, by go_num, by have := HLT.out; omega, by rw [HE.out], HV, HB⟩
                      case measure => have := HLT.out; simp [intOf]; omega
                    | false =>
                      rw [hf] at HS
                      have hE := HS.out
                      rw [Bool.false_or] at hE
                      have hx1 := (HCC.out _ HB.out).1
                      by_cases hpk : pk x.f1 5 = (j : Int)
                      · rw [decide_eq_true hpk, Bool.true_and] at hE
                        have HE := Aside0.mk hE
                        have hpk1 := beq_iff_eq.mpr hpk
                        clear hE HS hpk
                        go_wp2_with (first
                          | (go_at_call 11; (with_reducible refine (pick_calls x.f1 5 _ HX.out (by decide)).mono ?_); rintro e w_a ⟨rfl, hd⟩; have HV' := Aside0.mk (HV.out.drawn hd); have HB' := Aside0.mk (below_drawn HB.out hd); clear HV HB; have HV := HV'; have HB := HB'; clear HV' HB'; clear hd; have hx2 := (HCC.out _ HB.out).2)
                          | (go_at_call 13; (with_reducible refine (sector_calls _ _).mono ?_); rintro e w_b ⟨rfl, hb⟩; have HV' := Aside0.mk (HV.out.below hb); have HB' := Aside0.mk (HB.out.trans (hb.mono HB.out.size)); clear HV HB; have HV := HV'; have HB := HB'; clear HV' HB'; clear hb))
                        go_roundw
                        case rel => exact ⟨i + 1, by go_num, by have := HLT.out; omega, by rw [HE.out], HV, HB⟩
                        case measure => have := HLT.out; simp [intOf]; omega
                      · rw [decide_eq_false hpk, Bool.false_and] at hE
                        have HE := Aside0.mk hE
                        have hpk1 := beq_eq_false_iff_ne.mpr hpk
                        clear hE HS hpk
                        go_wp2_with (first
                          | (go_at_call 11; (with_reducible refine (pick_calls x.f1 5 _ HX.out (by decide)).mono ?_); rintro e w_a ⟨rfl, hd⟩; have HV' := Aside0.mk (HV.out.drawn hd); have HB' := Aside0.mk (below_drawn HB.out hd); clear HV HB; have HV := HV'; have HB := HB'; clear HV' HB'; clear hd; have hx2 := (HCC.out _ HB.out).2))
                        go_roundw
                        case rel => exact ⟨i + 1, by go_num, by have := HLT.out; omega, by rw [HE.out], HV, HB⟩
                        case measure => have := HLT.out; simp [intOf]; omega
                  · obtain rfl : i = k.length := by omega
                    rw [List.take_of_length_le (Nat.le_refl _), HF.out]
                    go_wp2
                    go_roundw
                    case rel => exact ⟨j + 1, by go_num, by have := HJ.out; omega, HV, HB⟩
                    case measure => have := HJ.out; simp [intOf]; omega
              · obtain rfl : j = 5 := by omega
                go_wp2_with (first
                  | (go_at_call 19; (have hC := dPending HV.out 0 rfl; rw [HEN.out.1] at hC; with_reducible refine hC.mono ?_; clear hC); rintro e w_x ⟨rfl, hd⟩; have HV' := Aside0.mk (HV.out.drawn hd); have HB' := Aside0.mk (below_drawn HB.out hd); clear HV HB; have HV := HV'; have HB := HB'; clear HV' HB'; clear hd)
                  | (go_at_call 18; (have hC := dDown HV.out 0 rfl; rw [HEN.out.2] at hC; with_reducible refine hC.mono ?_; clear hC); rintro e w_y ⟨rfl, hd⟩; have HV' := Aside0.mk (HV.out.drawn hd); have HB' := Aside0.mk (below_drawn HB.out hd); clear HV HB; have HV := HV'; have HB := HB'; clear HV' HB'; clear hd))
                go_ret
                exact ⟨by first | rfl | (simp; done), HB.out⟩
  · have hno : isSmall l = false ∨ (isSmall l = true ∧ isSmall k = false) ∨ (isSmall l = true ∧ isSmall k = true ∧ 100 < keep.length) := by
      cases h1 : isSmall l <;> cases h2 : isSmall k <;> simp [h1, h2] at hsm ⊢ <;> omega
    clear hsm
    rcases hno with hsl | ⟨hsl, hsk⟩ | ⟨hsl, hsk, hkl⟩
    · cases hsk : isSmall k <;>
      · go_enter Try.func6, Try.ntmps6
        go_wp2_with (first
          | (go_at_call 8; (with_reducible refine (shown_calls _).mono ?_); rintro e w' ⟨rfl, hb⟩; have HV' := Aside0.mk (HV.out.below hb); have HB' := Aside0.mk hb; clear hb HV HB; have HV := HV'; have HB := HB'; clear HV' HB')
          | (go_at_call 9; (have hC := small_calls Al cl l _ (Kd.C_below HRl.out HB.out) HCl.out; rw [hsl] at hC; with_reducible refine hC.mono ?_; clear hC); rintro e w2 ⟨rfl, hd⟩; have HV' := Aside0.mk (HV.out.drawn hd); have HB' := Aside0.mk (below_drawn HB.out hd); clear HV HB; have HV := HV'; have HB := HB'; clear HV' HB'; clear hd)
          | (go_at_call 9; (have hC := small_calls Ak ck k _ (Kd.C_below HRk.out HB.out) HCk.out; rw [hsk] at hC; with_reducible refine hC.mono ?_; clear hC); rintro e w4 ⟨rfl, hd⟩; have HV' := Aside0.mk (HV.out.drawn hd); have HB' := Aside0.mk (below_drawn HB.out hd); clear HV HB; have HV := HV'; have HB := HB'; clear HV' HB'; clear hd))
        go_ret
        exact ⟨rfl, HB.out⟩
    · go_enter Try.func6, Try.ntmps6
      go_wp2_with (first
        | (go_at_call 8; (with_reducible refine (shown_calls _).mono ?_); rintro e w' ⟨rfl, hb⟩; have HV' := Aside0.mk (HV.out.below hb); have HB' := Aside0.mk hb; clear hb HV HB; have HV := HV'; have HB := HB'; clear HV' HB')
          | (go_at_call 9; (have hC := small_calls Al cl l _ (Kd.C_below HRl.out HB.out) HCl.out; rw [hsl] at hC; with_reducible refine hC.mono ?_; clear hC); rintro e w2 ⟨rfl, hd⟩; have HV' := Aside0.mk (HV.out.drawn hd); have HB' := Aside0.mk (below_drawn HB.out hd); clear HV HB; have HV := HV'; have HB := HB'; clear HV' HB'; clear hd)
          | (go_at_call 9; (have hC := small_calls Ak ck k _ (Kd.C_below HRk.out HB.out) HCk.out; rw [hsk] at hC; with_reducible refine hC.mono ?_; clear hC); rintro e w4 ⟨rfl, hd⟩; have HV' := Aside0.mk (HV.out.drawn hd); have HB' := Aside0.mk (below_drawn HB.out hd); clear HV HB; have HV := HV'; have HB := HB'; clear HV' HB'; clear hd))
      go_ret
      exact ⟨rfl, HB.out⟩
    · have hkl1 := decide_eq_true (show (100 : Int) < (keep.length : Int) by omega)
      clear hkl
      go_enter Try.func6, Try.ntmps6
      go_wp2_with (first
        | (go_at_call 8; (with_reducible refine (shown_calls _).mono ?_); rintro e w' ⟨rfl, hb⟩; have HV' := Aside0.mk (HV.out.below hb); have HB' := Aside0.mk hb; clear hb HV HB; have HV := HV'; have HB := HB'; clear HV' HB')
          | (go_at_call 9; (have hC := small_calls Al cl l _ (Kd.C_below HRl.out HB.out) HCl.out; rw [hsl] at hC; with_reducible refine hC.mono ?_; clear hC); rintro e w2 ⟨rfl, hd⟩; have HV' := Aside0.mk (HV.out.drawn hd); have HB' := Aside0.mk (below_drawn HB.out hd); clear HV HB; have HV := HV'; have HB := HB'; clear HV' HB'; clear hd)
          | (go_at_call 9; (have hC := small_calls Ak ck k _ (Kd.C_below HRk.out HB.out) HCk.out; rw [hsk] at hC; with_reducible refine hC.mono ?_; clear hC); rintro e w4 ⟨rfl, hd⟩; have HV' := Aside0.mk (HV.out.drawn hd); have HB' := Aside0.mk (below_drawn HB.out hd); clear HV HB; have HV := HV'; have HB := HB'; clear HV' HB'; clear hd))
      go_ret
      exact ⟨rfl, HB.out⟩
end Go.Proofs.Ytakpedenoocmpaa.Dv
