import Derived.Test.YtakpedenoocmpaaRfOps
import Derived.Test.YtakpedenoocmpaaDvLast
/-! The reference's New. -/
namespace Go.Proofs.Ytakpedenoocmpaa.Rf
open Go.RowKit Go.Proofs.YtakpedenoocmpaaW.PrintWords Go.Proofs.YtakpedenoocmpaaW.PrintLast Go.Proofs.YtakpedenoocmpaaW.PrintMore
open Go.Proofs.Ytakpedenoocmpaa.Dv (Dev kW kW_E kW_sz kW_mk kW_open Mv blankS fresh_eq hmc3 Zeros zeros_conv)
attribute [local go_sem] max2_int min2_int max_two min_two max_three min_three max_four min_four
set_option linter.unusedVariables false
set_option linter.unusedSimpArgs false

attribute [local irreducible] blankS
set_option maxHeartbeats 8000000 in
set_option maxRecDepth 100000 in
theorem blank_calls (w : World) : Calls Try.prog 31 #[] w fun e w' => e = .returned (.string blankS) ∧ Below w.heap.size w w' := by
  have mk3 : ∀ W : World, (Instr.makeSlice 37 (.int .i64 64) (.int .i64 64)).run Try.prog W = .ok (.slice (some ⟨W.heap.size, 0, none⟩) 64 64) (W.alloc (.cells (nums .u8 (List.replicate 64 0)).toArray 5)) := fun W => by
    rw [← hmc3]
    exact print_make_of (P := Try.prog) 37 5 (.int .u8 0) 1 Try.underlying37 (by kernel_rfl) rfl (by decide) 64 (by decide) W
  generalize hz3 : (List.replicate 64 (0 : Int)) = Z3 at mk3
  have cv := zeros_conv (W := w.alloc (.cells (nums .u8 Z3).toArray 5)) (heap_alloc_new w _) hz3.symm
  have HB := Aside0.mk (below_alloc (Below.refl w.heap.size w) (.cells (nums .u8 Z3).toArray 5))
  clear hz3
  go_enter Try.func31, Try.ntmps31
  go_wp2
  go_ret
  exact ⟨rfl, HB.out⟩
/-- A device that is being made: block g, its sectors v. -/
structure Made (W : World) (b g : Nat) (v : Value) (l : List ByteArray) : Prop where
  blk : W.heap[g]? = some (.cells #[v, .slice none 0 0, .slice none 0 0, .int .i64 (-1), .bool false] 66 (0, 0))
  row : Kd.string.R 9 W b (fun k => b ≤ k) v l
theorem Made.below {W W1 : World} {b g : Nat} {v : Value} {l : List ByteArray} (h : Made W b g v l) (hb : Below W.heap.size W W1) : Made W1 b g v l := ⟨blk_below h.blk hb, Kd.R_below h.row hb⟩
theorem Made.put {W : World} {b g : Nat} {v u : Value} {l : List ByteArray} (h : W.heap[g]? = some (.cells #[v, .slice none 0 0, .slice none 0 0, .int .i64 (-1), .bool false] 66 (0, 0))) (hr : Kd.string.R 9 W b (fun k => b ≤ k) u l) : Made (W.setCell ⟨g, 0, none⟩ u) b g u l :=
  ⟨by simpa using blk_set h 0 u, Kd.R_set hr h (by decide) 0 _⟩
theorem Made.isDev {W W1 : World} {g b g1 c1 g5 c5 n : Nat} (h : Made W g g (.slice (some ⟨g1, 0, none⟩) n c1) (List.replicate n blankS)) (hB : Below W.heap.size W W1) (hR : Kd.string.R 9 W1 W.heap.size (fun k => W.heap.size ≤ k) (.slice (some ⟨g5, 0, none⟩) n c5) (List.replicate n blankS)) (hb : b ≤ g) (h1 : 1 ≤ n) (h2 : n ≤ 8192) :
    IsDev (W1.setCell ⟨g, 1, none⟩ (.slice (some ⟨g5, 0, none⟩) n c5)) b (fun k => g ≤ k) g (Dev.fresh n) := by
  have h5 : W.heap.size ≤ g5 := Kd.R_base hR g5 rfl
  have hg1 : g1 < W.heap.size := Kd.R_lt h.row g1 rfl
  have hg := blk_lt h.blk
  have hM := h.below hB
  have hR' : Kd.string.R 9 W1 b (fun k => g ≤ k) (.slice (some ⟨g5, 0, none⟩) n c5) (List.replicate n blankS) := Kd.R_lower (Kd.R_mono hR (fun k hk => by omega)) (by omega)
  have hM' : Kd.string.R 9 W1 b (fun k => g ≤ k) (.slice (some ⟨g1, 0, none⟩) n c1) (List.replicate n blankS) := Kd.R_lower hM.row hb
  have hok := Dev.Ok.fresh h1 h2
  have hl : (List.replicate n blankS).length = n := List.length_replicate
  rw [fresh_eq] at hok ⊢
  refine ⟨g1, c1, g5, c5, .slice none 0 0, ?_, hb, Nat.le_refl _, ?_, ?_, Kd.R_nil _ _ _ _ _, by omega, hok⟩
  · show _ = some (Obj.cells #[.slice (some ⟨g1, 0, none⟩) (List.replicate n blankS).length c1, .slice (some ⟨g5, 0, none⟩) (List.replicate n blankS).length c5, _, _, _] 66 (0, 0))
    rw [hl]
    simpa using blk_set hM.blk 1 (.slice (some ⟨g5, 0, none⟩) n c5)
  · show Kd.string.R 9 _ b _ (.slice (some ⟨g1, 0, none⟩) (List.replicate n blankS).length c1) _
    rw [hl]
    exact Kd.R_set hM' hM.blk (by decide) 1 _
  · show Kd.string.R 9 _ b _ (.slice (some ⟨g5, 0, none⟩) (List.replicate n blankS).length c5) _
    rw [hl]
    exact Kd.R_set hR' hM.blk (by decide) 1 _
set_option maxHeartbeats 8000000 in
set_option maxRecDepth 100000 in
theorem New_calls (n : Nat) (w : World) (b : Nat) (hb : b ≤ w.heap.size) (h1 : 1 ≤ n) (h2 : n ≤ 8192) :
    Calls Try.prog 21 #[.int .i64 n] w fun e w' => ∃ g, e = .returned (.tuple #[.pointer (some ⟨g, 0, none⟩), .int .i64 0]) ∧ Below w.heap.size w w' ∧ IsDev w' b (fun k => w.heap.size ≤ k) g (Dev.fresh n) := by
  have d1 : decide ((n : Int) < 1) = false := decide_eq_false (by omega)
  have d2 : decide (8192 < (n : Int)) = false := decide_eq_false (by omega)
  have d3 : decide (8192 < n) = false := decide_eq_false (by omega)
  have H1 := Aside0.mk h1
  have H2 := Aside0.mk h2
  clear h1 h2
  go_enter Try.func21, Try.ntmps21
  go_wp2
  have HD := Aside0.mk (Made.mk (heap_alloc_new w (.cells #[.slice none 0 0, .slice none 0 0, .slice none 0 0, .int .i64 (-1), .bool false] 66)) (Kd.R_nil Kd.string 9 _ w.heap.size (fun k => w.heap.size ≤ k)))
  have HB := Aside0.mk (below_alloc (Below.refl w.heap.size w) (.cells #[.slice none 0 0, .slice none 0 0, .slice none 0 0, .int .i64 (-1), .bool false] 66))
  have HG := Aside0.mk (Nat.le_refl w.heap.size)
  generalize w.alloc (.cells #[.slice none 0 0, .slice none 0 0, .slice none 0 0, .int .i64 (-1), .bool false] 66) = wa at HD HB ⊢
  generalize hg : w.heap.size = g at HD HG ⊢
  rw [hg] at HB
  go_loopw [5] (fun v5 wr => ∃ (j : Nat) (v : Value), v5 = .int .i64 (j : Int) ∧ j ≤ n ∧ Aside0 (Made wr g g v (List.replicate j blankS)) ∧ Aside0 (Below g w wr)) (fun v5 _ => n - (intOf v5).toNat)
  case atStart => exact ⟨0, _, rfl, Nat.zero_le _, HD, HB⟩
  case round =>
    clear HD HB
    obtain ⟨j, v, rfl, hj, HD, HB⟩ := hrel
    by_cases hlt : j < n
    · have HLT := Aside0.mk hlt
      have hjb : j ≤ 8192 := by have := H2.out; omega
      have c0 : wr.cell? ⟨g, 0, none⟩ = some v := (blk_cell HD.out.blk 0).trans rfl
      have HC0 := Aside0.mk c0
      go_wp2
      go_region_law (first
        | (refine goes_ Try.func31 (by kernel_rfl) rfl #[] (by rfl) rfl rfl (by first | rfl | (simp only [List.map_toArray, List.map_cons, List.map_nil]; done) | (simp only [List.map_toArray, List.map_cons, List.map_nil]; rfl)) ?_; (with_reducible refine (blank_calls _).mono ?_); rintro e w1 ⟨rfl, hb1⟩; refine ⟨_, rfl, ?_⟩; have hb2 : Below wr.heap.size wr w1 := ⟨hb1.os, hb1.tape, hb1.output, hb1.size, hb1.block⟩; have hd1 := HD.out.below hb2; have c1 : w1.cell? ⟨g, 0, none⟩ = some v := (blk_cell hd1.blk 0).trans rfl; have ltg := blk_lt hd1.blk; have HB1 := Aside0.mk (HB.out.trans (hb2.mono (by have := HB.out.size; omega))); have HD1 := Aside0.mk hd1; clear hb1 hb2 hd1)
        | (refine Kd.R_append_step Kd.string (w0 := w) g (by rfl) (.tmp 23) (.tmp 25) 53 9 (.string ⟨#[]⟩) 16 rfl Try.underlying53 infoS rfl (by decide) (by omega) v (List.replicate j blankS) blankS [.string blankS] (fun k => g ≤ k) (fun _ => False) rfl rfl rfl (fun _ h => h.elim) (fun k hk => by have := HB1.out.size; omega) HD1.out.row HB1.out (by have := HB1.out.size; omega) (by rw [List.length_replicate]; omega) ?_; intro v9 w9 ho hb9 hg9 hat9; obtain ⟨A9, k9, rfl⟩ := Kd.R_slice ho; have hk9 := (hg9.block g (blk_lt HD1.out.blk) (Kd.R_ne HD1.out.row HD1.out.blk (by decide))).trans HD1.out.blk; have c9 : w9.cell? ⟨g, 0, none⟩ = some v := (blk_cell hk9 0).trans rfl; have f9 : w9.frozen? ⟨g, 0, none⟩ = false := blk_frozen hk9 0; have HO9 := Aside0.mk ho; have HB9 := Aside0.mk hb9; have HK9 := Aside0.mk hk9; clear ho hb9 hg9 hat9 hk9))
      all_goals
        have HE := Aside0.mk (Made.put HK9.out HO9.out)
        go_wp2
        go_roundw
        case rel =>
          refine ⟨j + 1, .slice A9 (j + 1) k9, by go_num, by have := HLT.out; omega, ⟨?_⟩, ⟨HB9.out.setCell (Nat.le_refl _) _⟩⟩
          have hE := HE.out
          rw [← List.replicate_succ', List.length_replicate] at hE
          exact hE
        case measure => have := HLT.out; simp [intOf]; omega
    · obtain rfl : j = n := by omega
      have hln : (List.replicate j blankS).length = j := List.length_replicate
      obtain ⟨g1, c1, hve, _⟩ := Kd.R_form HD.out.row (by rw [hln]; exact H1.out)
      rw [hln] at hve
      subst hve
      have c0 : wr.cell? ⟨g, 0, none⟩ = some (.slice (some ⟨g1, 0, none⟩) j c1) := (blk_cell HD.out.blk 0).trans rfl
      have ltg := blk_lt HD.out.blk
      have HLE := Aside0.mk hln
      go_wp2_with (first | ((with_reducible refine gate_builtin (b := .append) (xs := #[.tmp 30, .tmp 34]) rfl ?_); at_builtin; refine Kd.R_append_row Value.string ByteArray.empty (h1 := fun _ => rfl) (w0 := wr) wr.heap.size rfl (.tmp 30) (.tmp 34) 53 9 (.string ⟨#[]⟩) 16 rfl Try.underlying53 infoS rfl (by decide) (.slice (some ⟨wr.heap.size, 0, none⟩) 0 0) [] (List.replicate j blankS) (some ⟨g1, 0, none⟩) j c1 (fun k => wr.heap.size ≤ k) rfl rfl (fun k hk => Nat.le_trans (by simp) hk) (empty_R (Nat.le_refl _) (Nat.le_refl _) (heap_alloc_new wr _)) (by have h := (Kd.R_reads' (HD.out.below (below_alloc (Below.refl _ _) (.cells #[] 9))).row).2.2; rw [HLE.out] at h; exact h) (below_alloc (Below.refl _ _) _) (by simp) (by have := H2.out; simp; omega) ?_; intro v1 w2 ho hB2 _ _; rw [List.nil_append] at ho; obtain ⟨g5, c5, hv5, _⟩ := Kd.R_form ho (by rw [HLE.out]; exact H1.out); rw [HLE.out] at hv5; subst hv5; have hM := HD.out.below hB2; have q1 : w2.cell? ⟨g, 1, none⟩ = some (.slice none 0 0) := (blk_cell hM.blk 1).trans rfl; have f1 : w2.frozen? ⟨g, 1, none⟩ = false := blk_frozen hM.blk 1; have HO := Aside0.mk ho; have HB2 := Aside0.mk hB2; clear ho hB2 hM))
      go_ret2
      have hI := HD.out.isDev HB2.out HO.out (b := b) (by omega) H1.out H2.out
      refine ⟨g, rfl, ?_, ?_⟩
      · rw [hg]
        exact (HB.out.trans (HB2.out.mono (by omega))).setCell (Nat.le_refl _) _
      · rw [hg]
        exact hI
end Go.Proofs.Ytakpedenoocmpaa.Rf
