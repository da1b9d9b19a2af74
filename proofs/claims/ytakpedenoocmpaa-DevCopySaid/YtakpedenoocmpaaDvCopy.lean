import Derived.Test.YtakpedenoocmpaaDvCopy1
import Derived.Test.YtakpedenoocmpaaDvEither0
/-! DevCopy's body. -/
namespace Go.Proofs.Ytakpedenoocmpaa.Dv
open Go.RowKit Go.Proofs.YtakpedenoocmpaaW.PrintWords Go.Proofs.YtakpedenoocmpaaW.PrintLast Go.Proofs.YtakpedenoocmpaaW.PrintMore
attribute [local go_sem] max2_int min2_int max_two min_two max_three min_three max_four min_four
set_option linter.unusedVariables false
set_option linter.unusedSimpArgs false

attribute [local irreducible] sec blankS Dev.write Dev.flush Dev.power Dev.arm Dev.fresh mk Dev.put actD actR
set_option maxHeartbeats 2000000 in
set_option maxRecDepth 100000 in
theorem DevCopy_calls (Al : Option Addr) (cl : Nat) (l : List Fn.S33) (Ak : Option Addr) (ck : Nat) (k : List Fn.S33) (w : World) (hrl : Kd.C Fn.k33 w Al l.length l) (hcl : l.length ≤ cl) (hfl : ∀ x, x ∈ l → DvFit x) (hrk : Kd.C Fn.k33 w Ak k.length k) (hck : k.length ≤ ck) (hfk : ∀ x, x ∈ k → DvFit x) :
    Calls Try.prog 7 #[.slice Al l.length cl, .slice Ak k.length ck] w fun e w' => e = .returned (.bool true) ∧ Below w.heap.size w w' := by
  have HRl := Aside0.mk hrl
  have HCl := Aside0.mk hcl
  have HFTl := Aside0.mk hfl
  have HRk := Aside0.mk hrk
  have HCk := Aside0.mk hck
  have HFTk := Aside0.mk hfk
  have HV := Aside0.mk (Obs.nil w w.heap.size)
  have HB := Aside0.mk (Below.refl w.heap.size w)
  clear hrl hcl hfl hrk hck hfk
  by_cases hsm : isSmall l = true ∧ isSmall k = true
  · obtain ⟨hsl, hsk⟩ := hsm
    have hlen : l.length ≤ 60 := by
      unfold isSmall at hsl
      simp at hsl
      exact hsl.1
    have HLNl := Aside0.mk hlen
    have hlek : k.length ≤ 60 := by
      unfold isSmall at hsk
      simp at hsk
      exact hsk.1
    have HLNk := Aside0.mk hlek
    clear hlen hlek
    go_enter Try.func7, Try.ntmps7
    go_wp2_with (first
      | (go_at_call 8; (with_reducible refine (shown_calls _).mono ?_); rintro e w' ⟨rfl, hb⟩; have HV' := Aside0.mk (HV.out.below hb); have HB' := Aside0.mk hb; clear hb HV HB; have HV := HV'; have HB := HB'; clear HV' HB')
      | (go_at_call 9; (have hC := small_calls Al cl l _ (Kd.C_below HRl.out HB.out) HCl.out; rw [hsl] at hC; with_reducible refine hC.mono ?_; clear hC); rintro e w2 ⟨rfl, hd⟩; have HV' := Aside0.mk (HV.out.drawn hd); have HB' := Aside0.mk (below_drawn HB.out hd); clear HV HB; have HV := HV'; have HB := HB'; clear HV' HB'; clear hd)
      | (go_at_call 9; (have hC := small_calls Ak ck k _ (Kd.C_below HRk.out HB.out) HCk.out; rw [hsk] at hC; with_reducible refine hC.mono ?_; clear hC); rintro e w4 ⟨rfl, hd⟩; have HV' := Aside0.mk (HV.out.drawn hd); have HB' := Aside0.mk (below_drawn HB.out hd); clear HV HB; have HV := HV'; have HB := HB'; clear HV' HB'; clear hd)
      | (go_at_call 10; (have hC := oNew HV.out HB.out.size 6 (x := 6) rfl (by decide) (by decide); with_reducible refine hC.mono ?_; clear hC); rintro e w3 ⟨g1, rfl, hV, hF⟩; have HV' := Aside0.mk (hV); have HB' := Aside0.mk (HB.out.trans hF.below); clear HV HB; have HV := HV'; have HB := HB'; clear HV' HB'; clear hV hF)
      | (go_at_call 21; (have hC := rNew HV.out HB.out.size 6 (x := 6) rfl (by decide) (by decide); with_reducible refine hC.mono ?_; clear hC); rintro e w_r ⟨g2, rfl, hV, hF⟩; have HV' := Aside0.mk (hV); have HB' := Aside0.mk (HB.out.trans hF.below); clear HV HB; have HV := HV'; have HB := HB'; clear HV' HB'; clear hV hF))
    go_loopw [12] (fun v12 wr => ∃ (i : Nat) (D : Dev), v12 = .int .i64 (i : Int) ∧ i ≤ l.length ∧ Aside0 (Good D ∧ D.pend.length ≤ i) ∧ Aside0 (Obs wr w.heap.size [.dev g1 D, .ref g2 D]) ∧ Aside0 (Below w.heap.size w wr)) (fun v12 _ => l.length - (intOf v12).toNat)
    case atStart => exact ⟨0, Dev.fresh 6, rfl, Nat.zero_le _, ⟨Good.fresh 6, by rw [fresh_eq]; exact Nat.le_refl _⟩, ⟨HV.out⟩, HB⟩
    case round =>
      clear HV HB
      obtain ⟨i, D, rfl, hi, HG, HV, HB⟩ := hrel
      by_cases hlt : i < l.length
      · have HLT := Aside0.mk hlt
        have hjb : i ≤ 60 := by have := HLNl.out; omega
        obtain ⟨ad, A3, c3, hAe, hx0, hx1, hx2, hx3, hcc, hC3⟩ := Fn.at_T33 HRl.out (i : Int) (by omega) (by omega)
        subst hAe
        have hmem : Fn.rd_T33 l (i : Int) ∈ l := by unfold Fn.rd_T33; simp [List.getD, hlt]
        have HX := Aside0.mk (HFTl.out _ hmem)
        clear hmem hcc
        generalize Fn.rd_T33 l (i : Int) = x at hx0 hx1 hx2 hx3 HX hC3
        have HC3 := Aside0.mk hC3
        simp only [Int.toNat_natCast] at hx0 hx1 hx2 hx3
        replace hx0 := (HB.out.cell (World.block_lt_of_cell? w _ hx0)).trans hx0
        replace hx1 := (HB.out.cell (World.block_lt_of_cell? w _ hx1)).trans hx1
        replace hx2 := (HB.out.cell (World.block_lt_of_cell? w _ hx2)).trans hx2
        replace hx3 := (HB.out.cell (World.block_lt_of_cell? w _ hx3)).trans hx3
        clear hC3
        go_wp2_with (first
          | (go_at_call 22; (have hC := does_calls HV.out 0 1 (by decide) rfl rfl HB.out.size (by have := HG.out.2; have := HLT.out; have := HLNl.out; omega) (by have := HG.out.2; have := HLT.out; have := HLNl.out; omega) x A3 c3 (fun W' hW => Kd.C_below HC3.out (HB.out.trans hW)) HX.out; with_reducible refine hC.mono ?_; clear hC); rintro e w5 ⟨_, rfl, hV, hF⟩; have HV' := Aside0.mk (hV); have HB' := Aside0.mk (HB.out.trans hF.below); clear HV HB; have HV := HV'; have HB := HB'; clear HV' HB'; clear hV hF))
        go_roundw
        case rel =>
          have hG := HG.out.1.actD x
          refine ⟨i + 1, actD D x, by go_num, by have := HLT.out; omega, ⟨hG.1, by have := pend_actD D x; have := HG.out.2; omega⟩, ⟨?_⟩, HB⟩
          have h := HV.out
          rw [hG.2] at h
          exact h
        case measure => have := HLT.out; simp [intOf]; omega
      · obtain rfl : i = l.length := by omega
        have HPD := Aside0.mk (show D.pend.length ≤ 1000000 by have := HG.out.2; have := HLNl.out; omega)
        go_wp2_with (first
          | (go_at_call 20; (have hC := oClone HV.out 0 rfl HB.out.size HPD.out; with_reducible refine hC.mono ?_; clear hC); rintro e w6 ⟨g3, rfl, hV, hF⟩; have HV' := Aside0.mk (hV); have HB' := Aside0.mk (HB.out.trans hF.below); clear HV HB; have HV := HV'; have HB := HB'; clear HV' HB'; clear hV hF)
          | (go_at_call 21; (have hC := rNew HV.out HB.out.size 6 (x := 6) rfl (by decide) (by decide); with_reducible refine hC.mono ?_; clear hC); rintro e w_s ⟨g4, rfl, hV, hF⟩; have HV' := Aside0.mk (hV); have HB' := Aside0.mk (HB.out.trans hF.below); clear HV HB; have HV := HV'; have HB := HB'; clear HV' HB'; clear hV hF))
        go_loopw [16] (fun v16 wr => ∃ (i : Nat) (C S : Dev), v16 = .int .i64 (i : Int) ∧ i ≤ k.length ∧ Aside0 (C.pend.length ≤ 60 + i ∧ S.pend.length ≤ i) ∧ Aside0 (Obs wr w.heap.size [.dev g1 D, .ref g2 D, .dev g3 C, .ref g4 S]) ∧ Aside0 (Below w.heap.size w wr)) (fun v16 _ => k.length - (intOf v16).toNat)
        case atStart => exact ⟨0, D, Dev.fresh 6, rfl, Nat.zero_le _, ⟨by have := HG.out.2; have := HLNl.out; omega, by rw [fresh_eq]; exact Nat.le_refl _⟩, ⟨HV.out⟩, HB⟩
        case round =>
          clear HV HB
          obtain ⟨i, C, S, rfl, hi, HP, HV, HB⟩ := hrel
          by_cases hlt : i < k.length
          · have HLT := Aside0.mk hlt
            have hjb : i ≤ 60 := by have := HLNk.out; omega
            obtain ⟨ad, A3, c3, hAe, hx0, hx1, hx2, hx3, hcc, hC3⟩ := Fn.at_T33 HRk.out (i : Int) (by omega) (by omega)
            subst hAe
            have hmem : Fn.rd_T33 k (i : Int) ∈ k := by unfold Fn.rd_T33; simp [List.getD, hlt]
            have HX := Aside0.mk (HFTk.out _ hmem)
            clear hmem hcc
            generalize Fn.rd_T33 k (i : Int) = x at hx0 hx1 hx2 hx3 HX hC3
            have HC3 := Aside0.mk hC3
            simp only [Int.toNat_natCast] at hx0 hx1 hx2 hx3
            replace hx0 := (HB.out.cell (World.block_lt_of_cell? w _ hx0)).trans hx0
            replace hx1 := (HB.out.cell (World.block_lt_of_cell? w _ hx1)).trans hx1
            replace hx2 := (HB.out.cell (World.block_lt_of_cell? w _ hx2)).trans hx2
            replace hx3 := (HB.out.cell (World.block_lt_of_cell? w _ hx3)).trans hx3
            clear hC3
            go_wp2_with (first
              | (go_at_call 22; (have hC := does_calls HV.out 2 3 (by decide) rfl rfl HB.out.size (by have := HP.out.1; have := HLT.out; have := HLNk.out; omega) (by have := HP.out.2; have := HLT.out; have := HLNk.out; omega) x A3 c3 (fun W' hW => Kd.C_below HC3.out (HB.out.trans hW)) HX.out; with_reducible refine hC.mono ?_; clear hC); rintro e w5 ⟨_, rfl, hV, hF⟩; have HV' := Aside0.mk (hV); have HB' := Aside0.mk (HB.out.trans hF.below); clear HV HB; have HV := HV'; have HB := HB'; clear HV' HB'; clear hV hF))
            go_roundw
            case rel => exact ⟨i + 1, actD C x, actR S x, by go_num, by have := HLT.out; omega, ⟨by have := pend_actD C x; have := HP.out.1; omega, by have := pend_actR S x; have := HP.out.2; omega⟩, ⟨HV.out⟩, HB⟩
            case measure => have := HLT.out; simp [intOf]; omega
          · obtain rfl : i = k.length := by omega
            obtain ⟨F1, hI1⟩ := HV.out.get (i := 0) rfl
            obtain ⟨F2, hI2⟩ := HV.out.get (i := 1) rfl
            have HI1 := Aside0.mk (show IsDev wr w.heap.size F1 g1 D from hI1)
            have HI2 := Aside0.mk (show Rf.IsDev wr w.heap.size F2 g2 D from hI2)
            clear hI1 hI2
            go_wp2_with (first
              | (go_at_call 23; (with_reducible refine (alike_calls HI1.out HI2.out).mono ?_); rintro e w9 ⟨rfl, hd⟩; have HB' := Aside0.mk (below_drawn HB.out hd); clear HB hd; have HB := HB'; clear HB'))
            go_ret
            exact ⟨rfl, HB.out⟩
  · have hno : isSmall l = false ∨ (isSmall l = true ∧ isSmall k = false) := by
      cases h1 : isSmall l <;> cases h2 : isSmall k <;> simp [h1, h2] at hsm ⊢
    clear hsm
    rcases hno with hsl | ⟨hsl, hsk⟩
    · cases hsk : isSmall k <;>
      · go_enter Try.func7, Try.ntmps7
        go_wp2_with (first
          | (go_at_call 8; (with_reducible refine (shown_calls _).mono ?_); rintro e w' ⟨rfl, hb⟩; have HV' := Aside0.mk (HV.out.below hb); have HB' := Aside0.mk hb; clear hb HV HB; have HV := HV'; have HB := HB'; clear HV' HB')
          | (go_at_call 9; (have hC := small_calls Al cl l _ (Kd.C_below HRl.out HB.out) HCl.out; rw [hsl] at hC; with_reducible refine hC.mono ?_; clear hC); rintro e w2 ⟨rfl, hd⟩; have HV' := Aside0.mk (HV.out.drawn hd); have HB' := Aside0.mk (below_drawn HB.out hd); clear HV HB; have HV := HV'; have HB := HB'; clear HV' HB'; clear hd)
          | (go_at_call 9; (have hC := small_calls Ak ck k _ (Kd.C_below HRk.out HB.out) HCk.out; rw [hsk] at hC; with_reducible refine hC.mono ?_; clear hC); rintro e w4 ⟨rfl, hd⟩; have HV' := Aside0.mk (HV.out.drawn hd); have HB' := Aside0.mk (below_drawn HB.out hd); clear HV HB; have HV := HV'; have HB := HB'; clear HV' HB'; clear hd))
        go_ret
        exact ⟨rfl, HB.out⟩
    · go_enter Try.func7, Try.ntmps7
      go_wp2_with (first
        | (go_at_call 8; (with_reducible refine (shown_calls _).mono ?_); rintro e w' ⟨rfl, hb⟩; have HV' := Aside0.mk (HV.out.below hb); have HB' := Aside0.mk hb; clear hb HV HB; have HV := HV'; have HB := HB'; clear HV' HB')
          | (go_at_call 9; (have hC := small_calls Al cl l _ (Kd.C_below HRl.out HB.out) HCl.out; rw [hsl] at hC; with_reducible refine hC.mono ?_; clear hC); rintro e w2 ⟨rfl, hd⟩; have HV' := Aside0.mk (HV.out.drawn hd); have HB' := Aside0.mk (below_drawn HB.out hd); clear HV HB; have HV := HV'; have HB := HB'; clear HV' HB'; clear hd)
          | (go_at_call 9; (have hC := small_calls Ak ck k _ (Kd.C_below HRk.out HB.out) HCk.out; rw [hsk] at hC; with_reducible refine hC.mono ?_; clear hC); rintro e w4 ⟨rfl, hd⟩; have HV' := Aside0.mk (HV.out.drawn hd); have HB' := Aside0.mk (below_drawn HB.out hd); clear HV HB; have HV := HV'; have HB := HB'; clear HV' HB'; clear hd))
      go_ret
      exact ⟨rfl, HB.out⟩
end Go.Proofs.Ytakpedenoocmpaa.Dv
