import Derived.Test.YtakpedenoocmpaaDvShown2
/-! DevLast's body. -/
namespace Go.Proofs.Ytakpedenoocmpaa.Dv
open Go.RowKit Go.Proofs.YtakpedenoocmpaaW.PrintWords Go.Proofs.YtakpedenoocmpaaW.PrintLast Go.Proofs.YtakpedenoocmpaaW.PrintMore
attribute [local go_sem] max2_int min2_int max_two min_two max_three min_three max_four min_four
set_option linter.unusedVariables false
set_option linter.unusedSimpArgs false

/-- A block of numbers, of truths. -/
def Nums (W : World) (g : Nat) (xs : List Int) : Prop := W.heap[g]? = some (.cells (xs.map (Value.int .i64)).toArray 3 (0, 0))
def Bools (W : World) (g : Nat) (xs : List Bool) : Prop := W.heap[g]? = some (.cells (xs.map Value.bool).toArray 4 (0, 0))
section
variable {W W1 : World} {b g : Nat} {xs : List Int} {ys : List Bool}
theorem Nums.fr (h : Nums W g xs) (hF : Fr b W W1) : Nums W1 g xs := (hF.kept _ _ _ _ h (by unfold Dt; omega)).trans h
theorem Bools.fr (h : Bools W g ys) (hF : Fr b W W1) : Bools W1 g ys := (hF.kept _ _ _ _ h (by unfold Dt; omega)).trans h
theorem Nums.cell (h : Nums W g xs) (k : Int) (h0 : 0 ≤ k) (h1 : k < xs.length) : W.cell? ⟨g, k.toNat, none⟩ = some (.int .i64 (xs.getD k.toNat 0)) ∧ W.frozen? ⟨g, k.toNat, none⟩ = false := by
  refine ⟨(blk_cell h _).trans ?_, blk_frozen h _⟩
  have hl : k.toNat < xs.length := by omega
  simp [hl, List.getD]
theorem Bools.cell (h : Bools W g ys) (k : Int) (h0 : 0 ≤ k) (h1 : k < ys.length) : W.cell? ⟨g, k.toNat, none⟩ = some (.bool (ys.getD k.toNat false)) ∧ W.frozen? ⟨g, k.toNat, none⟩ = false := by
  refine ⟨(blk_cell h _).trans ?_, blk_frozen h _⟩
  have hl : k.toNat < ys.length := by omega
  simp [hl, List.getD]
theorem Nums.set (h : Nums W g xs) (j : Nat) (x : Int) : Nums (W.setCell ⟨g, j, none⟩ (.int .i64 x)) g (xs.set j x) := by
  unfold Nums
  rw [blk_set h j (.int .i64 x), List.map_set]
  simp
theorem Bools.set (h : Bools W g ys) (j : Nat) (x : Bool) : Bools (W.setCell ⟨g, j, none⟩ (.bool x)) g (ys.set j x) := by
  unfold Bools
  rw [blk_set h j (.bool x), List.map_set]
  simp
theorem Nums.far (h : Nums W g xs) {p : Addr} (hp : g ≠ p.block) (u : Value) : Nums (W.setCell p u) g xs := blk_far h hp u
theorem Bools.far (h : Bools W g ys) {p : Addr} (hp : g ≠ p.block) (u : Value) : Bools (W.setCell p u) g ys := blk_far h hp u
theorem Fr.setCell {W0 : World} (h : Fr b W0 W) {p : Addr} (hb : b ≤ p.block) {cs : Array Value} {t : Nat} {fr : Nat × Nat} (hp : W.heap[p.block]? = some (.cells cs t fr)) (hnew : ∀ o, W0.heap[p.block]? ≠ some o) (u : Value) : Fr b W0 (W.setCell p u) :=
  ⟨h.below.setCell hb u, fun k cs' t' fr' hk ht => by
    have hne : k ≠ p.block := fun e => hnew _ (e ▸ hk)
    exact (Below.heap_setCell W p u k hne).trans (h.kept k cs' t' fr' hk ht)⟩
end

/-- What holds behind i writes: each sector has what was written last, or noughts. -/
structure Inv (i : Nat) (D : Dev) (want : List Int) (was : List Bool) : Prop where
  left : D.left = -1
  down : D.down = false
  len : D.now.length = 6
  pend : D.pend.length ≤ i
  lw : want.length = 6
  lb : was.length = 6
  now : ∀ j, j < 6 → D.now.getD j ⟨#[]⟩ = if was.getD j false = true then sec (want.getD j 0) else blankS
theorem getD_rep {α : Type} (a d : α) (n j : Nat) (h : j < n) : (List.replicate n a).getD j d = a := by simp [List.getD, h]
theorem Inv.start : Inv 0 (Dev.fresh 6) (List.replicate 6 0) (List.replicate 6 false) :=
  ⟨rfl, rfl, by simp [fresh_eq], by simp [fresh_eq], by simp, by simp, fun j hj => by
    have h1 : (Dev.fresh 6).now.getD j ⟨#[]⟩ = blankS := getD_rep _ _ _ _ hj
    have h2 : (List.replicate 6 false).getD j false = false := getD_rep _ _ _ _ hj
    rw [h1, h2]
    rfl⟩
theorem Inv.write {i : Nat} {D : Dev} {want : List Int} {was : List Bool} (h : Inv i D want was) {k : Int} (h0 : 0 ≤ k) (h1 : k < 6) (n : Int) : D.write k (sec n) = (0, D.put k (sec n)) := by
  have hl := h.len
  have hw : D.wrong k = 0 := by unfold Dev.wrong; rw [if_neg (by simp [h.down]), if_neg (by omega), if_neg (by omega)]
  have hs : D.spend = (0, D) := by unfold Dev.spend; rw [h.left, if_neg (by decide), if_neg (by decide)]
  unfold Dev.write
  rw [if_pos hw, if_pos (sec_size n), hs, if_pos rfl]
theorem Inv.put {i : Nat} {D : Dev} {want : List Int} {was : List Bool} (h : Inv i D want was) {k : Int} (h0 : 0 ≤ k) (h1 : k < 6) (n : Int) : Inv (i + 1) (D.put k (sec n)) (want.set k.toNat n) (was.set k.toNat true) :=
  ⟨h.left, h.down, by simpa [Dev.put] using h.len, by simp [Dev.put]; exact h.pend, by simpa using h.lw, by simpa using h.lb, fun j hj => by
    have hl := h.len
    have hw := h.lw
    have hb := h.lb
    have hn := h.now j hj
    by_cases e : k.toNat = j
    · subst e
      simp [Dev.put, List.getD, hl, hw, hb, hj]
    · simp only [Dev.put, List.getD, List.getElem?_set_ne e] at hn ⊢
      exact hn⟩
theorem Inv.flush {i : Nat} {D : Dev} {want : List Int} {was : List Bool} (h : Inv i D want was) : D.flush = (0, { D with last := laid D.last D.pend, pend := [] }) ∧ Inv i { D with last := laid D.last D.pend, pend := [] } want was := by
  have hs : D.spend = (0, D) := by unfold Dev.spend; rw [h.left, if_neg (by decide), if_neg (by decide)]
  refine ⟨?_, h.left, h.down, h.len, Nat.zero_le _, h.lw, h.lb, h.now⟩
  unfold Dev.flush
  rw [if_neg (by simp [h.down]), hs, if_pos rfl]
theorem Inv.read {i : Nat} {D : Dev} {want : List Int} {was : List Bool} (h : Inv i D want was) (j : Nat) (hj : j < 6) : (if D.wrong (j : Int) = 0 then rdOf ByteArray.empty D.now (j : Int) else ⟨#[]⟩) = (if was.getD j false = true then sec (want.getD j 0) else blankS) ∧ D.wrong (j : Int) = 0 := by
  have hl := h.len
  have hw : D.wrong (j : Int) = 0 := by unfold Dev.wrong; rw [if_neg (by simp [h.down]), if_neg (by omega), if_neg (by omega)]
  refine ⟨?_, hw⟩
  rw [if_pos hw, ← h.now j hj]
  have hjl : j < D.now.length := by omega
  simp [rdOf, List.getD, hjl]

theorem hmc1 : madeCells #[Value.int .i64 0] 6 = ((List.replicate 6 (0 : Int)).map (Value.int .i64)).toArray := by kernel_rfl
theorem hmc2 : madeCells #[Value.bool false] 6 = ((List.replicate 6 false).map Value.bool).toArray := by kernel_rfl
theorem hmc3 : madeCells #[Value.int .u8 0] 64 = (nums .u8 (List.replicate 64 0)).toArray := by kernel_rfl
/-- A block of 64 noughts. -/
def Zeros (W : World) (g : Nat) (Z : List Int) : Prop := W.heap[g]? = some (.cells (nums .u8 Z).toArray 5 (0, 0))
theorem zeros_conv {W : World} {g : Nat} {Z : List Int} (h : Zeros W g Z) (hz : Z = List.replicate 64 0) : (convert 37 9 (.slice (some ⟨g, 0, none⟩) 64 64)).run Try.prog W = .ok (.string blankS) W := by
  have hl : Z.length = 64 := by rw [hz]; simp
  have ho : W.ownsRow 0 5 1 (.slice (some ⟨g, 0, none⟩) 64 64) 64 (nums .u8 Z) := ⟨by simp [nums, hl], .inr ⟨g, 64, _, rfl, Nat.zero_le _, h, Nat.le_refl _, by decide, by simp [nums, hl], by simp only [Nat.mul_one]; exact List.take_of_length_le (by simp [nums, hl])⟩⟩
  have := own_string (P := Try.prog) Try.underlying37 Try.underlying5 Try.underlying9 ho
  rw [this, hz]
  rfl
attribute [local irreducible] sec blankS Dev.write Dev.flush Dev.power Dev.arm Dev.fresh mk Dev.put
set_option maxHeartbeats 2000000 in
set_option maxRecDepth 100000 in
theorem DevLast_calls (A : Option Addr) (c : Nat) (l : List Fn.S33) (at_ : Int) (w : World) (hr : Kd.C Fn.k33 w A l.length l) (hc : l.length ≤ c) (hfit : ∀ x, x ∈ l → -9223372036854775808 ≤ x.f1) :
    Calls Try.prog 3 #[.slice A l.length c, .int .i64 at_] w fun e w' => e = .returned (.bool true) ∧ Below w.heap.size w w' := by
  have HR := Aside0.mk hr
  have HC := Aside0.mk hc
  have HFT := Aside0.mk hfit
  have HV := Aside0.mk (Devs.nil w w.heap.size)
  have HB := Aside0.mk (Below.refl w.heap.size w)
  clear hr hc hfit
  have mk1 : ∀ W : World, (Instr.makeSlice 29 (.int .i64 6) (.int .i64 6)).run Try.prog W = .ok (.slice (some ⟨W.heap.size, 0, none⟩) 6 6) (W.alloc (.cells ((List.replicate 6 (0 : Int)).map (Value.int .i64)).toArray 3)) := fun W => by
    rw [← hmc1]
    exact print_make_of (P := Try.prog) 29 3 (.int .i64 0) 8 Try.underlying29 (by kernel_rfl) rfl (by decide) 6 (by decide) W
  have mk2 : ∀ W : World, (Instr.makeSlice 30 (.int .i64 6) (.int .i64 6)).run Try.prog W = .ok (.slice (some ⟨W.heap.size, 0, none⟩) 6 6) (W.alloc (.cells ((List.replicate 6 false).map Value.bool).toArray 4)) := fun W => by
    rw [← hmc2]
    exact print_make_of (P := Try.prog) 30 4 (.bool false) 1 Try.underlying30 (by kernel_rfl) rfl (by decide) 6 (by decide) W
  have mk3 : ∀ W : World, (Instr.makeSlice 37 (.int .i64 64) (.int .i64 64)).run Try.prog W = .ok (.slice (some ⟨W.heap.size, 0, none⟩) 64 64) (W.alloc (.cells (nums .u8 (List.replicate 64 0)).toArray 5)) := fun W => by
    rw [← hmc3]
    exact print_make_of (P := Try.prog) 37 5 (.int .u8 0) 1 Try.underlying37 (by kernel_rfl) rfl (by decide) 64 (by decide) W
  generalize hz3 : (List.replicate 64 (0 : Int)) = Z3 at mk3
  have HZ3 := Aside0.mk hz3.symm
  clear hz3
  generalize hz1 : (List.replicate 6 (0 : Int)) = Z1 at mk1
  generalize hz2 : (List.replicate 6 false) = Z2 at mk2
  cases hsm : isSmall l with
  | false =>
    go_enter Try.func3, Try.ntmps3
    go_wp2_with (first
      | (go_at_call 8; (with_reducible refine (shown_calls _).mono ?_); rintro e w' ⟨rfl, hb⟩; have HB1 := Aside0.mk hb; clear hb)
      | (go_at_call 9; (have hC := small_calls A c l w' (Kd.C_below HR.out HB1.out) HC.out; rw [hsm] at hC; with_reducible refine hC.mono ?_; clear hC); rintro e w2 ⟨rfl, ⟨nd, rfl⟩⟩))
    go_ret
    exact ⟨rfl, pw_below_drewN HB1.out nd⟩
  | true =>
    have hlen : l.length ≤ 60 := by
      unfold isSmall at hsm
      simp at hsm
      exact hsm.1
    have HLN := Aside0.mk hlen
    clear hlen
    go_enter Try.func3, Try.ntmps3
    go_wp2_with (first
      | (go_at_call 8; (with_reducible refine (shown_calls _).mono ?_); rintro e w' ⟨rfl, hb⟩; have HV' := Aside0.mk (HV.out.below hb); have HB' := Aside0.mk hb; clear hb HV HB; have HV := HV'; have HB := HB'; clear HV' HB')
      | (go_at_call 9; (have hC := small_calls A c l w' (Kd.C_below HR.out HB.out) HC.out; rw [hsm] at hC; with_reducible refine hC.mono ?_; clear hC); rintro e w2 ⟨rfl, ⟨nd, rfl⟩⟩; have HV' := Aside0.mk (HV.out.drewN nd); have HB' := Aside0.mk (pw_below_drewN HB.out nd); clear HV HB; have HV := HV'; have HB := HB'; clear HV' HB')
      | (go_at_call 10; (have hC := stepN HV.out HB.out.size 6 (x := 6) rfl (by decide) (by decide); with_reducible refine hC.mono ?_; clear hC); rintro e w3 ⟨g1, rfl, hV, hF⟩; have HV' := Aside0.mk hV; have HB' := Aside0.mk (HB.out.trans hF.below); clear HV HB hV hF; have HV := HV'; have HB := HB'; clear HV' HB'))
    have HN := Aside0.mk (show Nums ((w3.alloc (.cells (Z1.map (Value.int .i64)).toArray 3)).alloc (.cells (Z2.map Value.bool).toArray 4)) w3.heap.size Z1 from (blk_alloc (heap_alloc_new w3 _) _))
    have HT := Aside0.mk (show Bools ((w3.alloc (.cells (Z1.map (Value.int .i64)).toArray 3)).alloc (.cells (Z2.map Value.bool).toArray 4)) (w3.heap.size + 1) Z2 from by
      have h := heap_alloc_new (w3.alloc (.cells (Z1.map (Value.int .i64)).toArray 3)) (.cells (Z2.map Value.bool).toArray 4)
      rwa [show (w3.alloc (.cells (Z1.map (Value.int .i64)).toArray 3)).heap.size = w3.heap.size + 1 by simp] at h)
    have HV2 := Aside0.mk ((HV.out.alloc (.cells (Z1.map (Value.int .i64)).toArray 3)).alloc (.cells (Z2.map Value.bool).toArray 4))
    have HB2 := Aside0.mk ((HB.out.alloc HB.out.size (.cells (Z1.map (Value.int .i64)).toArray 3)).alloc (Nat.le_trans HB.out.size (by simp)) (.cells (Z2.map Value.bool).toArray 4))
    have HG := Aside0.mk HB.out.size
    clear HV HB mk1 mk2
    generalize (w3.alloc (.cells (Z1.map (Value.int .i64)).toArray 3)).alloc (.cells (Z2.map Value.bool).toArray 4) = w4 at HN HT HV2 HB2 ⊢
    generalize w3.heap.size = gw at HN HT HG ⊢
    go_loopw [11] (fun v11 wr => ∃ (i : Nat) (D : Dev) (want : List Int) (was : List Bool), v11 = .int .i64 (i : Int) ∧ i ≤ l.length ∧ Aside0 (Inv i D want was) ∧ Aside0 (Devs wr w.heap.size [(g1, D)]) ∧ Aside0 (Below w.heap.size w wr) ∧ Aside0 (Nums wr gw want) ∧ Aside0 (Bools wr (gw + 1) was)) (fun v11 _ => l.length - (intOf v11).toNat)
    case atStart => exact ⟨0, Dev.fresh 6, Z1, Z2, rfl, Nat.zero_le _, ⟨by rw [← hz1, ← hz2]; exact Inv.start⟩, ⟨HV2.out⟩, HB2, HN, HT⟩
    case round =>
      clear HN HT HV2 HB2 hz1 hz2
      obtain ⟨i, D, want, was, rfl, hi, HI, HV, HB, HN, HT⟩ := hrel
      by_cases hlt : i < l.length
      · have HLT := Aside0.mk hlt
        obtain ⟨ad, A3, c3, rfl, hx0, hx1, hx2, hx3, _, _⟩ := Fn.at_T33 HR.out (i : Int) (by omega) (by omega)
        have hmem : Fn.rd_T33 l (i : Int) ∈ l := by unfold Fn.rd_T33; simp [List.getD, hlt]
        have HX := Aside0.mk (HFT.out _ hmem)
        clear hmem hx0 hx3
        generalize Fn.rd_T33 l (i : Int) = x at hx1 hx2 HX
        simp only [Int.toNat_natCast] at hx1 hx2
        have HX2 := Aside0.mk hx2
        replace hx1 := (HB.out.cell (World.block_lt_of_cell? w _ hx1)).trans hx1
        replace hx2 := (HB.out.cell (World.block_lt_of_cell? w _ hx2)).trans hx2
        have hjb : i ≤ 60 := by have := HLN.out; omega
        have hg1 : gw ≠ gw + 1 := by omega
        have hg2 : gw + 1 ≠ gw := by omega
        by_cases hq : (i : Int) = at_
        · have hq1 : ((i : Int) == at_) = true := beq_iff_eq.mpr hq
          clear hq
          go_wp2_with (first
            | (go_at_call 11; (have hC := pick_calls x.f1 6 wr HX.out (by decide); with_reducible refine hC.mono ?_; clear hC); rintro e w5 ⟨rfl, ⟨nd, rfl⟩⟩; have hk := pk_range x.f1 6 (by decide); generalize pk x.f1 6 = k at hk ⊢; have hk0 := eq_true hk.1; have hk1 := eq_true hk.2; have hd0 := decide_eq_true hk.1; have hd1 := decide_eq_true hk.2; have HK := Aside0.mk hk; clear hk; have HV' := Aside0.mk (HV.out.drewN nd); have HB' := Aside0.mk (pw_below_drewN HB.out nd); have HN' := Aside0.mk (show Nums (wr.drewN nd) gw want from HN.out); have HT' := Aside0.mk (show Bools (wr.drewN nd) (gw + 1) was from HT.out); clear HV HB HN HT; have HV := HV'; have HB := HB'; have HN := HN'; have HT := HT'; clear HV' HB' HN' HT')
            | (go_at_call 13; (with_reducible refine (sector_calls _ _).mono ?_); rintro e w6 ⟨rfl, hb⟩; have HV' := Aside0.mk (HV.out.below hb); have HN' := Aside0.mk (show Nums w6 gw want from blk_below HN.out hb); have HT' := Aside0.mk (show Bools w6 (gw + 1) was from blk_below HT.out hb); have HB' := Aside0.mk (HB.out.trans (hb.mono HB.out.size)); clear HV HN HT HB; have HV := HV'; have HN := HN'; have HT := HT'; have HB := HB'; clear HV' HN' HT' HB'; clear hb)
            | (go_at_call 12; (have hC := stepW HV.out 0 rfl HB.out.size (HI.out.write HK.out.1 HK.out.2 x.f2) (by have := HI.out.pend; have := HLN.out; have := HLT.out; omega); with_reducible refine hC.mono ?_; clear hC); rintro e w7 ⟨rfl, hV, hF⟩; have HV' := Aside0.mk (hV); have HB' := Aside0.mk (HB.out.trans hF.below); have HN' := Aside0.mk (HN.out.fr hF); have HT' := Aside0.mk (HT.out.fr hF); clear HV HB HN HT; have HV := HV'; have HB := HB'; have HN := HN'; have HT := HT'; clear HV' HB' HN' HT'; clear hV hF; have HBB := Aside0.mk ((HB.out.setCell (p := ⟨gw, k.toNat, none⟩) HG.out (.int .i64 x.f2)).setCell (p := ⟨gw + 1, k.toNat, none⟩) (Nat.le_succ_of_le HG.out) (.bool true)); obtain ⟨cw, fw⟩ := HN.out.cell k HK.out.1 (by rw [HI.out.lw]; exact HK.out.2); obtain ⟨cb, fb⟩ := HT.out.cell k HK.out.1 (by rw [HI.out.lb]; exact HK.out.2); have hx3 := (HB.out.cell (World.block_lt_of_cell? w _ HX2.out)).trans HX2.out)
            | (go_at_call 14; (have hC := stepF ((HV.out.far HN.out (by unfold Dt; omega) (p := ⟨gw, k.toNat, none⟩) (.int .i64 x.f2)).far (HT.out.far (by omega) (.int .i64 x.f2)) (by unfold Dt; omega) (p := ⟨gw + 1, k.toNat, none⟩) (.bool true)) 0 rfl HBB.out.size (HI.out.put HK.out.1 HK.out.2 x.f2).flush.1 (by have := (HI.out.put HK.out.1 HK.out.2 x.f2).pend; have := HLN.out; have := HLT.out; omega); with_reducible refine hC.mono ?_; clear hC); rintro e w9 ⟨rfl, hV, hF⟩; have HV9 := Aside0.mk hV; have HF9 := Aside0.mk hF; clear hV hF))
          go_roundw
          case rel =>
            have hil := HLN.out
            have hil2 := HLT.out
            exact ⟨i + 1, _, _, _, by go_num, by omega, ⟨(HI.out.put HK.out.1 HK.out.2 x.f2).flush.2⟩, HV9, ⟨HBB.out.trans HF9.out.below⟩, ⟨((HN.out.set k.toNat x.f2).far hg1 _).fr HF9.out⟩, ⟨((HT.out.far hg2 _).set k.toNat true).fr HF9.out⟩⟩
          case measure => have hil := HLN.out; have hil2 := HLT.out; simp [intOf]; omega
        · have hq1 : ((i : Int) == at_) = false := beq_eq_false_iff_ne.mpr hq
          clear hq
          go_wp2_with (first
            | (go_at_call 11; (have hC := pick_calls x.f1 6 wr HX.out (by decide); with_reducible refine hC.mono ?_; clear hC); rintro e w5 ⟨rfl, ⟨nd, rfl⟩⟩; have hk := pk_range x.f1 6 (by decide); generalize pk x.f1 6 = k at hk ⊢; have hk0 := eq_true hk.1; have hk1 := eq_true hk.2; have hd0 := decide_eq_true hk.1; have hd1 := decide_eq_true hk.2; have HK := Aside0.mk hk; clear hk; have HV' := Aside0.mk (HV.out.drewN nd); have HB' := Aside0.mk (pw_below_drewN HB.out nd); have HN' := Aside0.mk (show Nums (wr.drewN nd) gw want from HN.out); have HT' := Aside0.mk (show Bools (wr.drewN nd) (gw + 1) was from HT.out); clear HV HB HN HT; have HV := HV'; have HB := HB'; have HN := HN'; have HT := HT'; clear HV' HB' HN' HT')
            | (go_at_call 13; (with_reducible refine (sector_calls _ _).mono ?_); rintro e w6 ⟨rfl, hb⟩; have HV' := Aside0.mk (HV.out.below hb); have HN' := Aside0.mk (show Nums w6 gw want from blk_below HN.out hb); have HT' := Aside0.mk (show Bools w6 (gw + 1) was from blk_below HT.out hb); have HB' := Aside0.mk (HB.out.trans (hb.mono HB.out.size)); clear HV HN HT HB; have HV := HV'; have HN := HN'; have HT := HT'; have HB := HB'; clear HV' HN' HT' HB'; clear hb)
            | (go_at_call 12; (have hC := stepW HV.out 0 rfl HB.out.size (HI.out.write HK.out.1 HK.out.2 x.f2) (by have := HI.out.pend; have := HLN.out; have := HLT.out; omega); with_reducible refine hC.mono ?_; clear hC); rintro e w7 ⟨rfl, hV, hF⟩; have HV' := Aside0.mk (hV); have HB' := Aside0.mk (HB.out.trans hF.below); have HN' := Aside0.mk (HN.out.fr hF); have HT' := Aside0.mk (HT.out.fr hF); clear HV HB HN HT; have HV := HV'; have HB := HB'; have HN := HN'; have HT := HT'; clear HV' HB' HN' HT'; clear hV hF; obtain ⟨cw, fw⟩ := HN.out.cell k HK.out.1 (by rw [HI.out.lw]; exact HK.out.2); obtain ⟨cb, fb⟩ := HT.out.cell k HK.out.1 (by rw [HI.out.lb]; exact HK.out.2); have hx3 := (HB.out.cell (World.block_lt_of_cell? w _ HX2.out)).trans HX2.out))
          go_roundw
          case rel =>
            have hil := HLN.out
            have hil2 := HLT.out
            exact ⟨i + 1, _, _, _, by go_num, by omega, ⟨HI.out.put HK.out.1 HK.out.2 x.f2⟩, ⟨(HV.out.far HN.out (by unfold Dt; omega) (p := ⟨gw, k.toNat, none⟩) (.int .i64 x.f2)).far (HT.out.far hg2 (.int .i64 x.f2)) (by unfold Dt; omega) (p := ⟨gw + 1, k.toNat, none⟩) (.bool true)⟩, ⟨(HB.out.setCell (p := ⟨gw, k.toNat, none⟩) HG.out (.int .i64 x.f2)).setCell (p := ⟨gw + 1, k.toNat, none⟩) (Nat.le_succ_of_le HG.out) (.bool true)⟩, ⟨(HN.out.set k.toNat x.f2).far hg1 _⟩, ⟨(HT.out.far hg2 _).set k.toNat true⟩⟩
          case measure => have hil := HLN.out; have hil2 := HLT.out; simp [intOf]; omega
      · obtain rfl : i = l.length := by omega
        go_wp2
        have HZ := Aside0.mk (show Zeros (wr.alloc (.cells (nums .u8 Z3).toArray 5)) wr.heap.size Z3 from heap_alloc_new wr _)
        have HB2 := Aside0.mk (HB.out.alloc HB.out.size (.cells (nums .u8 Z3).toArray 5))
        have HV2 := Aside0.mk (HV.out.alloc (.cells (nums .u8 Z3).toArray 5))
        have HN2 := Aside0.mk (show Nums (wr.alloc (.cells (nums .u8 Z3).toArray 5)) gw want from blk_alloc HN.out _)
        have HT2 := Aside0.mk (show Bools (wr.alloc (.cells (nums .u8 Z3).toArray 5)) (gw + 1) was from blk_alloc HT.out _)
        clear HV HB HN HT
        generalize wr.alloc (.cells (nums .u8 Z3).toArray 5) = w8 at HZ HB2 HV2 HN2 HT2 ⊢
        generalize wr.heap.size = gz at HZ ⊢
        go_loopw [15] (fun v15 wq => ∃ (j : Nat), v15 = .int .i64 (j : Int) ∧ j ≤ 6 ∧ Aside0 (Devs wq w.heap.size [(g1, D)]) ∧ Aside0 (Below w.heap.size w wq) ∧ Aside0 (Nums wq gw want) ∧ Aside0 (Bools wq (gw + 1) was) ∧ Aside0 (Zeros wq gz Z3)) (fun v15 _ => 6 - (intOf v15).toNat)
        case atStart => exact ⟨0, rfl, by omega, HV2, HB2, HN2, HT2, HZ⟩
        case round =>
          clear HV2 HB2 HN2 HT2 HZ
          obtain ⟨j, rfl, hj, HV, HB, HN, HT, HZ⟩ := hrel
          by_cases hlt : j < 6
          · have hrd := HI.out.read j hlt
            have HJ := Aside0.mk hlt
            obtain ⟨cb, _⟩ := HT.out.cell (j : Int) (by omega) (by rw [HI.out.lb]; omega)
            obtain ⟨cw, _⟩ := HN.out.cell (j : Int) (by omega) (by rw [HI.out.lw]; omega)
            rw [Int.toNat_natCast] at cb cw
            by_cases hwas : was.getD j false = true
            · rw [if_pos hwas] at hrd
              rw [hwas] at cb
              have HRD := Aside0.mk hrd
              clear hrd
              generalize want.getD j 0 = q at HRD cw
              go_wp2_with (first
                | (go_at_call 15; (have hC := stepR HV.out 0 rfl HRD.out; with_reducible refine hC.mono ?_; clear hC); rintro e w9 ⟨rfl, ⟨nd, rfl⟩⟩; have HV' := Aside0.mk (HV.out.drewN nd); have HB' := Aside0.mk (pw_below_drewN HB.out nd); have HN' := Aside0.mk (show Nums (wr.drewN nd) gw want from HN.out); have HT' := Aside0.mk (show Bools (wr.drewN nd) (gw + 1) was from HT.out); have HZ' := Aside0.mk (show Zeros (wr.drewN nd) gz Z3 from HZ.out); clear HV HB HN HT HZ; have HV := HV'; have HB := HB'; have HN := HN'; have HT := HT'; have HZ := HZ'; clear HV' HB' HN' HT' HZ')
                | (go_at_call 13; (with_reducible refine (sector_calls _ _).mono ?_); rintro e w6 ⟨rfl, hb⟩; have HV' := Aside0.mk (HV.out.below hb); have HN' := Aside0.mk (show Nums w6 gw want from blk_below HN.out hb); have HT' := Aside0.mk (show Bools w6 (gw + 1) was from blk_below HT.out hb); have HZ' := Aside0.mk (show Zeros w6 gz Z3 from blk_below HZ.out hb); have HB' := Aside0.mk (HB.out.trans (hb.mono HB.out.size)); clear HV HN HT HZ HB; have HV := HV'; have HN := HN'; have HT := HT'; have HZ := HZ'; have HB := HB'; clear HV' HN' HT' HZ' HB'; clear hb; obtain ⟨cb, _⟩ := HT.out.cell (j : Int) (by omega) (by rw [HI.out.lb]; omega); rw [Int.toNat_natCast, hwas] at cb))
              go_roundw
              case rel => exact ⟨j + 1, by go_num, by have := HJ.out; omega, HV, HB, HN, HT, HZ⟩
              case measure => have := HJ.out; simp [intOf]; omega
            · rw [if_neg hwas] at hrd
              rw [Bool.eq_false_iff.mpr hwas] at cb
              have HRD := Aside0.mk hrd
              clear hrd
              go_wp2_with (first
                | (go_at_call 15; (have hC := stepR HV.out 0 rfl HRD.out; with_reducible refine hC.mono ?_; clear hC); rintro e w9 ⟨rfl, ⟨nd, rfl⟩⟩; have HV' := Aside0.mk (HV.out.drewN nd); have HB' := Aside0.mk (pw_below_drewN HB.out nd); have HN' := Aside0.mk (show Nums (wr.drewN nd) gw want from HN.out); have HT' := Aside0.mk (show Bools (wr.drewN nd) (gw + 1) was from HT.out); have HZ' := Aside0.mk (show Zeros (wr.drewN nd) gz Z3 from HZ.out); clear HV HB HN HT HZ; have HV := HV'; have HB := HB'; have HN := HN'; have HT := HT'; have HZ := HZ'; clear HV' HB' HN' HT' HZ'; have cv := zeros_conv HZ.out HZ3.out))
              go_roundw
              case rel => exact ⟨j + 1, by go_num, by have := HJ.out; omega, HV, HB, HN, HT, HZ⟩
              case measure => have := HJ.out; simp [intOf]; omega
          · obtain rfl : j = 6 := by omega
            go_wp2
            go_ret
            exact ⟨rfl, HB.out⟩
end Go.Proofs.Ytakpedenoocmpaa.Dv
