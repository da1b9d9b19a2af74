import Derived.Test.YtakpedenoocmpaaRfOps3
/-! The reference's Power. -/
namespace Go.Proofs.Ytakpedenoocmpaa.Rf
open Go.RowKit Go.Proofs.YtakpedenoocmpaaW.PrintWords Go.Proofs.YtakpedenoocmpaaW.PrintLast Go.Proofs.YtakpedenoocmpaaW.PrintMore
open Go.Proofs.Ytakpedenoocmpaa.Dv (Dev kW kW_E kW_sz kW_mk kW_open Mv wrong_ok spend_now spend_last spend_pend zW infoW laid laid_length laid_append keptOf keptOf_yes keptOf_no keptOf_all odd at_W)
attribute [local go_sem] max2_int min2_int max_two min_two max_three min_three max_four min_four
set_option linter.unusedVariables false
set_option linter.unusedSimpArgs false

theorem odd_tmod (x : Int) : odd x = (Int.tmod x 2 != 0) := by
  have h1 : (BitVec.ofInt 64 x &&& BitVec.ofInt 64 1).toNat = (x % 2).toNat := by
    rw [BitVec.toNat_and, BitVec.toNat_ofInt, BitVec.toNat_ofInt]
    have e : ((1 : Int) % ((2 ^ 64 : Nat) : Int)).toNat = 1 := by decide
    rw [e, Nat.and_one_is_mod]
    omega
  unfold odd Go.bits
  show decide (0 < IntKind.i64.wrap ((BitVec.ofInt 64 x &&& BitVec.ofInt 64 1).toNat : Int)) = _
  rw [h1, Go.IntKind.wrap_i64]
  rcases (show x % 2 = 0 ∨ x % 2 = 1 by omega) with h | h
  · have : Int.tmod x 2 = 0 := Int.tmod_eq_zero_of_dvd (by omega)
    rw [h, this]; decide
  · have : Int.tmod x 2 ≠ 0 := fun e => by have := Int.dvd_of_tmod_eq_zero e; omega
    rw [h, bne_iff_ne.mpr this]; decide

theorem keptOf_cut : ∀ (ps : List (Int × ByteArray)) (ks : List Int) (j : Nat), j ≤ ks.length → (j = ps.length ∨ j = ks.length) → keptOf (ps.take j) (ks.take j) = keptOf ps ks
  | [], ks, j, _, _ => by simp [keptOf]
  | p :: ps, [], j, _, _ => by simp [keptOf]
  | p :: ps, k :: ks, 0, _, h => by simp at h
  | p :: ps, k :: ks, j + 1, hj, h => by
    have ih := keptOf_cut ps ks j (by simpa using hj) (by simpa using h)
    simp only [List.take_succ_cons, keptOf, ih]
section
variable {W : World} {b g : Nat} {F : Nat → Prop} {D : Dev}
set_option maxHeartbeats 8000000 in
set_option maxRecDepth 100000 in
theorem Power_calls (h : IsDev W b F g D) (hb : b ≤ W.heap.size) (hp : D.pend.length ≤ 1000000) (K : Option Addr) (keep : List Int) (ck : Nat) (hk : ∀ W', Mv W W' F → (Kd.int .i64).C W' K keep.length keep) :
    Calls Try.prog 34 #[.pointer (some ⟨g, 0, none⟩), .slice K keep.length ck] W fun e W' => e = .returned (.tuple #[]) ∧ Moved W W' b F g (D.power keep) := by
  obtain ⟨g1, c1, g2, c2, v3, h⟩ := h
  obtain ⟨A, c, rfl⟩ := Kd.R_slice h.pend
  have HF0 := Aside0.mk h.ok
  have HI0 := Aside0.mk h
  have HK := Aside0.mk hk
  have HP := Aside0.mk hp
  clear h hk hp
  go_enter Try.func34, Try.ntmps34
  go_wp2
  go_loopw [4] (fun v4 wr => ∃ j : Nat, v4 = .int .i64 (j : Int) ∧ j ≤ D.pend.length ∧ j ≤ keep.length ∧ Aside0 (Op wr b F g { D with last := laid D.last (keptOf (D.pend.take j) (keep.take j)) } g1 c1 g2 c2 (.slice A D.pend.length c)) ∧ Aside0 (Mv W wr F)) (fun v4 _ => D.pend.length - (intOf v4).toNat)
  case atStart => exact ⟨0, rfl, Nat.zero_le _, Nat.zero_le _, ⟨by simpa [laid, keptOf] using HI0.out⟩, ⟨Mv.refl _ _⟩⟩
  case round =>
    clear HI0
    obtain ⟨j, rfl, hj, hjk, HI, HM⟩ := hrel
    have e2 := HI.out.cell2
    by_cases hlt : j < D.pend.length
    · have HLT := Aside0.mk hlt
      have hjb : j ≤ 1000000 := by have := HP.out; omega
      have hlt1 := decide_eq_true (show (j : Int) < (D.pend.length : Int) by omega)
      by_cases hkl : j < keep.length
      · have HKL := Aside0.mk hkl
        have hkl1 := decide_eq_true (show (j : Int) < (keep.length : Int) by omega)
        have hkl2 := eq_true (show (j : Int) < (keep.length : Int) by omega)
        obtain ⟨adk, hKe, hkc⟩ := Kd.at_int (HK.out _ HM.out) (j : Int) (by omega) (by omega)
        subst hKe
        simp only [Int.toNat_natCast] at hkc
        have hrd : rd keep (j : Int) = keep.getD j 0 := rfl
        rw [hrd] at hkc
        have hY := keptOf_yes D.pend keep j hlt
        have hN := keptOf_no D.pend keep j
        by_cases ho : odd (keep.getD j 0) = true
        · have HY := Aside0.mk (hY hkl ho)
          clear hY hN
          rw [odd_tmod] at ho
          obtain ⟨ad, hAe, hx0, hx1⟩ := at_W (Kd.R_reads' HI.out.pend).2.2 (j : Int) (by omega) (by show (j : Int) < (D.pend.length : Nat); omega)
          subst hAe
          simp only [Int.toNat_natCast] at hx0 hx1
          have hm : D.pend.getD j (0, ⟨#[]⟩) ∈ D.pend := by simp [List.getD, hlt]
          have hk := HF0.out.at_ _ hm
          generalize D.pend.getD j (0, ⟨#[]⟩) = x at HY hx0 hx1 hk
          generalize keep.getD j 0 = kv at ho hkc
          have hk0 := eq_true hk.1
          have HK0 := Aside0.mk hk
          have hk1 := eq_true (show x.1 < (D.last.length : Int) by have := hk.2; have := HF0.out.len; omega)
          have hk2 := decide_eq_true hk.1
          have hk3 := decide_eq_true (show x.1 < (D.last.length : Int) by have := hk.2; have := HF0.out.len; omega)
          clear hm hk
          have e1 := HI.out.cell1
          obtain ⟨ea, ef⟩ := HI.out.at2 x.1 HK0.out.1 (by show x.1 < ((laid D.last _).length : Int); rw [laid_length]; exact of_eq_true hk1)
          simp only [laid_length] at e1
          have HI2 := HI
          have HM2 := HM
          clear HI HM
          go_wp2
          go_region
          go_wp2
          go_roundw
          case rel =>
            refine ⟨j + 1, by go_num, by have := HLT.out; omega, by have := HKL.out; omega, ⟨?_⟩, ⟨?_⟩⟩
            · have hO := (HI2.out.lastAt x.1 x.2).drew
              rw [HY.out, laid_append]
              exact hO
            · exact (HM2.out.setCell (.inl HI2.out.F2) _).drew
          case measure => have := HLT.out; simp [intOf]; omega
        · have HY := Aside0.mk (hN (fun _ => by simpa using ho))
          clear hY hN
          rw [odd_tmod] at ho
          have ho1 := Bool.eq_false_iff.mpr ho
          generalize keep.getD j 0 = kv at ho1 hkc
          clear ho
          go_wp2
          go_roundw
          case rel =>
            refine ⟨j + 1, by go_num, by have := HLT.out; omega, by have := HKL.out; omega, ⟨?_⟩, ⟨HM.out⟩⟩
            rw [HY.out]
            exact HI.out
          case measure => have := HLT.out; simp [intOf]; omega
      · obtain rfl : j = keep.length := by omega
        have hkl1 := decide_eq_false hkl
        have HX := Aside0.mk (keptOf_cut D.pend keep keep.length (Nat.le_refl _) (.inr rfl))
        rw [HX.out] at HI
        have HI1 := Aside0.mk (HI.out.mono (F' := fun k => F k ∨ wr.heap.size ≤ k) (fun _ hk => .inl hk))
        have hLl : (laid D.last (keptOf D.pend keep)).length = D.last.length := laid_length _ _
        have HPW := Aside0.mk (show D.power keep = { now := laid D.last (keptOf D.pend keep), last := laid D.last (keptOf D.pend keep), pend := [], left := -1, down := false } from rfl)
        have e1 := HI.out.cell1
        simp only [laid_length] at e1
        have HLN := Aside0.mk HF0.out.len
        have HPO := Aside0.mk HF0.out.pos
        have HSM := Aside0.mk HF0.out.small
        have ltg := blk_lt HI.out.blk
        have HC2 := Aside0.mk (fun V (hV : Below wr.heap.size wr V) => show Kd.string.C V (some ⟨g2, 0, none⟩) D.last.length (laid D.last (keptOf D.pend keep)) from by rw [← hLl]; exact (Kd.R_reads' (HI.out.below hV).last).2.2)
        generalize laid D.last (keptOf D.pend keep) = L at HI HI1 hLl HPW HC2
        have HLL := Aside0.mk hLl
        clear HI hLl
        go_wp2_with (first | ((with_reducible refine gate_builtin (b := .append) (xs := #[.tmp 48, .tmp 52]) rfl ?_); at_builtin; refine Kd.R_append_row Value.string ByteArray.empty (h1 := fun _ => rfl) (w0 := wr) wr.heap.size rfl (.tmp 48) (.tmp 52) 53 9 (.string ⟨#[]⟩) 16 rfl Try.underlying53 infoS rfl (by decide) (.slice (some ⟨wr.heap.size, 0, none⟩) 0 0) [] L (some ⟨g2, 0, none⟩) D.last.length c2 (fun k => wr.heap.size ≤ k) rfl rfl (fun k hk => Nat.le_trans (by simp) hk) (empty_R (Nat.le_refl _) (Nat.le_refl _) (heap_alloc_new wr _)) (HC2.out _ (below_alloc (Below.refl _ _) _)) (below_alloc (Below.refl _ _) _) (by simp) (by have := HSM.out; have := HLN.out; simp; omega) ?_; intro v1 w2 ho hB2 _ _; rw [List.nil_append] at ho; obtain ⟨g5, c5, rfl, _⟩ := Kd.R_form ho (by rw [HLL.out, HLN.out]; exact HPO.out); have HO := Aside0.mk ho; have HB2 := Aside0.mk hB2; have hI := HI1.out.below hB2; have q0 := hI.cell0; have q2 := hI.cell2; have q3 := hI.cell3; have q4 := hI.cell4; have f0 := hI.frz 0; have f2 := hI.frz 2; have f3 := hI.frz 3; have f4 := hI.frz 4; clear ho hB2 hI))
        first | go_end0 | ((try simp only [Exit.inBlock, Exit.then]); refine bodyPost_ret (results_none rfl _ _ _) rfl ?_)
        have hmap : ∀ k, (F k ∨ wr.heap.size ≤ k) → F k ∨ W.heap.size ≤ k := fun k hk => hk.elim .inl (fun h1 => .inr (Nat.le_trans HM.out.size h1))
        have hO := (((HI1.out.setNow HB2.out HO.out (fun k hk => .inr hk) (Nat.le_trans hb HM.out.size) (HLL.out.trans HLN.out)).noPend.left (-1) (by omega) (by omega)).power false).is
        rw [HPW.out]
        exact ⟨rfl, _, hO, hmap, (((HM.out.trans (Mv.of_below HB2.out (fun _ => False)) (fun _ h => h.elim)).setCell (hmap _ HI1.out.mem) _).setCell (hmap _ HI1.out.mem) _ |>.setCell (hmap _ HI1.out.mem) _).setCell (hmap _ HI1.out.mem) _⟩
    · obtain rfl : j = D.pend.length := by omega
      have hlt1 := decide_eq_false hlt
      have HX := Aside0.mk (keptOf_cut D.pend keep D.pend.length hjk (.inl rfl))
      rw [HX.out] at HI
      have HI1 := Aside0.mk (HI.out.mono (F' := fun k => F k ∨ wr.heap.size ≤ k) (fun _ hk => .inl hk))
      have hLl : (laid D.last (keptOf D.pend keep)).length = D.last.length := laid_length _ _
      have HPW := Aside0.mk (show D.power keep = { now := laid D.last (keptOf D.pend keep), last := laid D.last (keptOf D.pend keep), pend := [], left := -1, down := false } from rfl)
      have e1 := HI.out.cell1
      simp only [laid_length] at e1
      have HLN := Aside0.mk HF0.out.len
      have HPO := Aside0.mk HF0.out.pos
      have HSM := Aside0.mk HF0.out.small
      have ltg := blk_lt HI.out.blk
      have HC2 := Aside0.mk (fun V (hV : Below wr.heap.size wr V) => show Kd.string.C V (some ⟨g2, 0, none⟩) D.last.length (laid D.last (keptOf D.pend keep)) from by rw [← hLl]; exact (Kd.R_reads' (HI.out.below hV).last).2.2)
      generalize laid D.last (keptOf D.pend keep) = L at HI HI1 hLl HPW HC2
      have HLL := Aside0.mk hLl
      clear HI hLl
      go_wp2_with (first | ((with_reducible refine gate_builtin (b := .append) (xs := #[.tmp 48, .tmp 52]) rfl ?_); at_builtin; refine Kd.R_append_row Value.string ByteArray.empty (h1 := fun _ => rfl) (w0 := wr) wr.heap.size rfl (.tmp 48) (.tmp 52) 53 9 (.string ⟨#[]⟩) 16 rfl Try.underlying53 infoS rfl (by decide) (.slice (some ⟨wr.heap.size, 0, none⟩) 0 0) [] L (some ⟨g2, 0, none⟩) D.last.length c2 (fun k => wr.heap.size ≤ k) rfl rfl (fun k hk => Nat.le_trans (by simp) hk) (empty_R (Nat.le_refl _) (Nat.le_refl _) (heap_alloc_new wr _)) (HC2.out _ (below_alloc (Below.refl _ _) _)) (below_alloc (Below.refl _ _) _) (by simp) (by have := HSM.out; have := HLN.out; simp; omega) ?_; intro v1 w2 ho hB2 _ _; rw [List.nil_append] at ho; obtain ⟨g5, c5, rfl, _⟩ := Kd.R_form ho (by rw [HLL.out, HLN.out]; exact HPO.out); have HO := Aside0.mk ho; have HB2 := Aside0.mk hB2; have hI := HI1.out.below hB2; have q0 := hI.cell0; have q2 := hI.cell2; have q3 := hI.cell3; have q4 := hI.cell4; have f0 := hI.frz 0; have f2 := hI.frz 2; have f3 := hI.frz 3; have f4 := hI.frz 4; clear ho hB2 hI))
      first | go_end0 | ((try simp only [Exit.inBlock, Exit.then]); refine bodyPost_ret (results_none rfl _ _ _) rfl ?_)
      have hmap : ∀ k, (F k ∨ wr.heap.size ≤ k) → F k ∨ W.heap.size ≤ k := fun k hk => hk.elim .inl (fun h1 => .inr (Nat.le_trans HM.out.size h1))
      have hO := (((HI1.out.setNow HB2.out HO.out (fun k hk => .inr hk) (Nat.le_trans hb HM.out.size) (HLL.out.trans HLN.out)).noPend.left (-1) (by omega) (by omega)).power false).is
      rw [HPW.out]
      exact ⟨rfl, _, hO, hmap, (((HM.out.trans (Mv.of_below HB2.out (fun _ => False)) (fun _ h => h.elim)).setCell (hmap _ HI1.out.mem) _).setCell (hmap _ HI1.out.mem) _ |>.setCell (hmap _ HI1.out.mem) _).setCell (hmap _ HI1.out.mem) _⟩
end
end Go.Proofs.Ytakpedenoocmpaa.Rf
