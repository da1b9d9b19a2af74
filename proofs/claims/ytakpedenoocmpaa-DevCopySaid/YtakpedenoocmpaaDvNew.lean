import Derived.Test.YtakpedenoocmpaaDvRep
import Derived.Test.YtakpedenoocmpaaLfShelf
/-! New, Clone. -/
namespace Go.Proofs.Ytakpedenoocmpaa.Dv
open Go.RowKit Go.Proofs.YtakpedenoocmpaaW.PrintWords Go.Proofs.YtakpedenoocmpaaW.PrintLast Go.Proofs.YtakpedenoocmpaaW.PrintMore
attribute [local go_sem] max2_int min2_int max_two min_two max_three min_three max_four min_four
set_option linter.unusedVariables false
set_option linter.unusedSimpArgs false

def blankS : ByteArray := ⟨(List.replicate 64 0).toArray⟩
theorem fresh_eq (n : Nat) : Dev.fresh n = { now := List.replicate n blankS, last := List.replicate n blankS, pend := [], left := -1, down := false } := rfl
/-- A new block is a device. -/
theorem isDev_new {W w1 w2 w3 : World} {b g1 c1 g2 c2 : Nat} {v3 : Value} {D : Dev} {B1 B2 B3 : Nat} (hb : b ≤ W.heap.size)
    (hB1 : W.heap.size ≤ B1) (h1 : Kd.string.R 9 w1 B1 (fun _ => True) (.slice (some ⟨g1, 0, none⟩) D.now.length c1) D.now) (b2 : Below w1.heap.size w1 w2)
    (hB2 : w1.heap.size ≤ B2) (hBW : W.heap.size ≤ w1.heap.size) (h2 : Kd.string.R 9 w2 B2 (fun _ => True) (.slice (some ⟨g2, 0, none⟩) D.last.length c2) D.last) (b3 : Below w2.heap.size w2 w3)
    (hB3 : W.heap.size ≤ B3) (h3 : kW.R 62 w3 B3 (fun _ => True) v3 D.pend) (ok : D.Ok) :
    IsDev (w3.alloc (.cells #[.slice (some ⟨g1, 0, none⟩) D.now.length c1, .slice (some ⟨g2, 0, none⟩) D.last.length c2, v3, .int .i64 D.left, .bool D.down] 59)) b (fun k => W.heap.size ≤ k) w3.heap.size D := by
  have e1 : W.heap.size ≤ g1 := Nat.le_trans hB1 (Kd.R_base h1 g1 rfl)
  have l1 : g1 < w1.heap.size := Kd.R_lt h1 g1 rfl
  have e2 : w1.heap.size ≤ g2 := Nat.le_trans hB2 (Kd.R_base h2 g2 rfl)
  have e3 : ∀ k, v3.ownBlock = some k → W.heap.size ≤ k := fun k hk => Nat.le_trans hB3 (Kd.R_base h3 k hk)
  have b4 := below_alloc (Below.refl w3.heap.size w3) (.cells #[.slice (some ⟨g1, 0, none⟩) D.now.length c1, .slice (some ⟨g2, 0, none⟩) D.last.length c2, v3, .int .i64 D.left, .bool D.down] 59)
  have hs2 := b2.size
  have hs3 := b3.size
  refine ⟨g1, c1, g2, c2, v3, heap_alloc_new w3 _, by omega, by show W.heap.size ≤ w3.heap.size; omega, ?_, ?_, ?_, by omega, ok⟩
  · exact Kd.R_lower (Kd.R_mono (Kd.R_tight rfl (Kd.R_below (Kd.R_below (Kd.R_below h1 b2) b3) b4)) (fun k hk => by rw [show k = g1 by simpa [Value.ownBlock] using hk]; exact e1)) (by omega)
  · exact Kd.R_lower (Kd.R_mono (Kd.R_tight rfl (Kd.R_below (Kd.R_below h2 b3) b4)) (fun k hk => by rw [show k = g2 by simpa [Value.ownBlock] using hk]; omega)) (by omega)
  · exact Kd.R_lower (Kd.R_mono (Kd.R_tight rfl (Kd.R_below h3 b4)) (fun k hk => e3 k hk.symm)) (by omega)

set_option maxHeartbeats 2000000 in
set_option maxRecDepth 100000 in
theorem New_calls (n : Nat) (w : World) (b : Nat) (hb : b ≤ w.heap.size) (h1 : 1 ≤ n) (h2 : n ≤ 8192) :
    Calls Try.prog 10 #[.int .i64 n] w fun e w' => ∃ g, e = .returned (.tuple #[.pointer (some ⟨g, 0, none⟩), .int .i64 0]) ∧ Below w.heap.size w w' ∧ IsDev w' b (fun k => w.heap.size ≤ k) g (Dev.fresh n) := by
  have hz : (⟨(Lib.repeatL [0] 64).toArray⟩ : ByteArray) = blankS := rfl
  have HS := Aside0.mk (fun w => Sh.strings_Repeat ⟨#[0]⟩ 64 w (by omega) (by decide))
  have d1 : decide ((n : Int) < 1) = false := decide_eq_false (by omega)
  have d2 : decide (8192 < (n : Int)) = false := decide_eq_false (by omega)
  have d3 : decide (8192 < n) = false := decide_eq_false (by omega)
  have H1 := Aside0.mk h1
  clear h1
  go_enter Try.func10, Try.ntmps10
  go_wp2_with (first | (go_at_call 25; refine (HS.out _).mono ?_; rintro e w1 ⟨rfl, hb1⟩; have HB1 := Aside0.mk hb1; clear hb1) | (go_at_call 24; refine (repeat_calls ⟨w1.heap.size, 0, none⟩ 1 blankS n _ ((blk_cell (heap_alloc_new w1 _) 0).trans rfl) H1.out h2).mono ?_; rintro e w2 ⟨v, rfl, hR, hb2⟩; obtain ⟨g1, c1, rfl, _⟩ := Kd.R_form hR (by rw [List.length_replicate]; exact H1.out); have hcl := cloneS_calls ⟨g1, 0, none⟩ c1 (List.replicate n blankS) w2 (Kd.R_reads' hR).2.2 (by rw [List.length_replicate]; omega); have HR := Aside0.mk hR; have HB2 := Aside0.mk hb2; clear hR hb2; simp only [List.length_replicate] at hcl) | (go_at_call 26; refine hcl.mono ?_; clear hcl; rintro e w3 ⟨v, rfl, hR2, hb3⟩; obtain ⟨g2, c2, rfl, _⟩ := Kd.R_form hR2 (by rw [List.length_replicate]; exact H1.out); have HR2 := Aside0.mk hR2; have HB3 := Aside0.mk hb3; clear hR2 hb3))
  go_ret2
  have e1 : (Dev.fresh n).now.length = n := by simp [Dev.fresh]
  have e2 : (Dev.fresh n).last.length = n := by simp [Dev.fresh]
  have hs1 : w.heap.size ≤ (w1.alloc (.cells #[.string blankS] 9)).heap.size := by have := HB1.out.size; simp; omega
  have hI := isDev_new (W := w) (w1 := w2) (w2 := w3) (w3 := w3) (b := b) (D := Dev.fresh n) (v3 := .slice none 0 0) (B3 := w.heap.size) hb hs1 HR.out HB3.out (Nat.le_refl _) (Nat.le_trans hs1 HB2.out.size) HR2.out (Below.refl _ _) (Nat.le_refl _) (Kd.R_nil _ _ _ _ _) (Dev.Ok.fresh H1.out h2)
  rw [e1, e2] at hI
  exact ⟨_, rfl, (((((HB1.out.alloc HB1.out.size _).trans (HB2.out.mono hs1)).trans (HB3.out.mono (Nat.le_trans hs1 HB2.out.size))).alloc (Nat.le_trans (Nat.le_trans hs1 HB2.out.size) HB3.out.size) _)), hI⟩

set_option maxHeartbeats 2000000 in
set_option maxRecDepth 100000 in
theorem Clone_calls {W : World} {b g : Nat} {F : Nat → Prop} {D : Dev} (h : IsDev W b F g D) (hb : b ≤ W.heap.size) (hp : D.pend.length ≤ 1000000) :
    Calls Try.prog 20 #[.pointer (some ⟨g, 0, none⟩)] W fun e w' => ∃ g', e = .returned (.pointer (some ⟨g', 0, none⟩)) ∧ Below W.heap.size W w' ∧ IsDev w' b (fun k => W.heap.size ≤ k) g' D := by
  obtain ⟨g1, c1, g2, c2, v3, h⟩ := h
  obtain ⟨A, c, rfl⟩ := Kd.R_slice h.pend
  have hn := h.ok.small
  have hl := h.ok.len
  have hpos := h.ok.pos
  have hC1 : ∀ V, Below W.heap.size W V → Calls Try.prog 26 #[.slice (some ⟨g1, 0, none⟩) D.now.length c1] V fun e w' => ∃ v0_ : Value, e = .returned v0_ ∧ Kd.R Kd.string 9 w' V.heap.size (fun _ => True) v0_ D.now ∧ Below V.heap.size V w' := fun V hV => cloneS_calls _ _ _ _ (Kd.R_reads' (h.below hV).now).2.2 (by omega)
  have hC2 : ∀ V, Below W.heap.size W V → Calls Try.prog 26 #[.slice (some ⟨g2, 0, none⟩) D.last.length c2] V fun e w' => ∃ v0_ : Value, e = .returned v0_ ∧ Kd.R Kd.string 9 w' V.heap.size (fun _ => True) v0_ D.last ∧ Below V.heap.size V w' := fun V hV => cloneS_calls _ _ _ _ (Kd.R_reads' (h.below hV).last).2.2 (by omega)
  have hC3 : ∀ V, Below W.heap.size W V → Calls Try.prog 30 #[.slice A D.pend.length c] V fun e w' => ∃ v0_ : Value, e = .returned v0_ ∧ Kd.R kW 62 w' V.heap.size (fun _ => True) v0_ D.pend ∧ Below V.heap.size V w' := fun V hV => cloneW_calls _ _ _ _ (Kd.R_reads' (h.below hV).pend).2.2 hp
  have HCC := Aside0.mk (fun V (hV : Below W.heap.size W V) => show V.cell? ⟨g, 0, none⟩ = some (.slice (some ⟨g1, 0, none⟩) D.now.length c1) ∧ V.cell? ⟨g, 1, none⟩ = some (.slice (some ⟨g2, 0, none⟩) D.last.length c2) ∧ V.cell? ⟨g, 2, none⟩ = some (.slice A D.pend.length c) ∧ V.cell? ⟨g, 3, none⟩ = some (.int .i64 D.left) ∧ V.cell? ⟨g, 4, none⟩ = some (.bool D.down) from ⟨(h.below hV).cell0, (h.below hV).cell1, (h.below hV).cell2, (h.below hV).cell3, (h.below hV).cell4⟩)
  have hb00 : Below W.heap.size W W.drew := ⟨rfl, rfl, rfl, Nat.le_refl _, fun _ _ => rfl⟩
  have hd0 := HCC.out W.drew hb00
  have HOK := Aside0.mk h.ok
  have HPOS := Aside0.mk hpos
  have HLEN := Aside0.mk hl
  clear h hn hl hpos hp
  go_enter Try.func20, Try.ntmps20
  go_wp2
  go_region_held3 (fun V => V.cell? ⟨g, 0, none⟩ = some (.slice (some ⟨g1, 0, none⟩) D.now.length c1) ∧ V.cell? ⟨g, 1, none⟩ = some (.slice (some ⟨g2, 0, none⟩) D.last.length c2) ∧ V.cell? ⟨g, 2, none⟩ = some (.slice A D.pend.length c) ∧ V.cell? ⟨g, 3, none⟩ = some (.int .i64 D.left) ∧ V.cell? ⟨g, 4, none⟩ = some (.bool D.down))
    (first | exact hd3 | exact hd2 | exact hd1 | exact hd0 | exact HCC.out _ (below_alloc hb3 _)) (first
    | (go_at_call 26; refine (hC1 _ hb00).mono ?_; clear hC1; rintro e V1 ⟨v, rfl, hR1, hv1⟩; obtain ⟨g3, c3, rfl, _⟩ := Kd.R_form hR1 HPOS.out; have hb1 := hb00.trans hv1; have hd1 := HCC.out V1 hb1)
    | (go_at_call 26; refine (hC2 _ hb1).mono ?_; clear hC2; rintro e V2 ⟨v, rfl, hR2, hv2⟩; obtain ⟨g4, c4, rfl, _⟩ := Kd.R_form hR2 (by rw [HLEN.out]; exact HPOS.out); have hb2 := hb1.trans (hv2.mono hb1.size); have hd2 := HCC.out V2 hb2)
    | (go_at_call 30; refine (hC3 _ hb2).mono ?_; clear hC3; rintro e V3 ⟨v, rfl, hR3, hv3⟩; obtain ⟨A5, c5, rfl⟩ := Kd.R_slice hR3; have hb3 := hb2.trans (hv3.mono hb2.size); have hd3 := HCC.out V3 hb3))
  have HI := Aside0.mk (isDev_new (W := W) (w1 := V1) (w2 := V2) (w3 := V3) (D := D) hb (Nat.le_refl _) hR1 hv2 (Nat.le_refl _) hb1.size hR2 hv3 hb2.size hR3 HOK.out)
  have HB := Aside0.mk (hb3.alloc hb3.size (.cells #[.slice (some ⟨g3, 0, none⟩) D.now.length c3, .slice (some ⟨g4, 0, none⟩) D.last.length c4, .slice A5 D.pend.length c5, .int .i64 D.left, .bool D.down] 59))
  clear hd0 hd1 hd2 hd3 hR1 hR2 hR3 hv1 hv2 hv3 hb1 hb2 hb3 hb00 HCC
  go_wp2
  go_ret
  exact ⟨_, rfl, HB.out, HI.out⟩
end Go.Proofs.Ytakpedenoocmpaa.Dv
