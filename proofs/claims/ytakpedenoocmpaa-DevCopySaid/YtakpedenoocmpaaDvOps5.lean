import Derived.Test.YtakpedenoocmpaaDvOps4
/-! Power. -/
namespace Go.Proofs.Ytakpedenoocmpaa.Dv
open Go.RowKit Go.Proofs.YtakpedenoocmpaaW.PrintWords Go.Proofs.YtakpedenoocmpaaW.PrintLast Go.Proofs.YtakpedenoocmpaaW.PrintMore
attribute [local go_sem] max2_int min2_int max_two min_two max_three min_three max_four min_four
set_option linter.unusedVariables false
set_option linter.unusedSimpArgs false

section
variable {W : World} {b g : Nat} {F : Nat → Prop} {D : Dev} {g1 c1 g2 c2 : Nat} {v3 : Value}
theorem keptOf_yes : ∀ (ps : List (Int × ByteArray)) (ks : List Int) (j : Nat), j < ps.length → j < ks.length → odd (ks.getD j 0) = true → keptOf (ps.take (j + 1)) (ks.take (j + 1)) = keptOf (ps.take j) (ks.take j) ++ [ps.getD j (0, ⟨#[]⟩)]
  | [], _, _, h, _, _ => by simp at h
  | _ :: _, [], _, _, h, _ => by simp at h
  | p :: ps, k :: ks, 0, _, _, ho => by
    have ho : odd k = true := ho
    simp [keptOf, ho]
  | p :: ps, k :: ks, j + 1, h, hk, ho => by
    have ih := keptOf_yes ps ks j (by simpa using h) (by simpa using hk) (by simpa [List.getD] using ho)
    simp only [List.take_succ_cons, keptOf, ih]
    split <;> simp [List.getD]
theorem keptOf_no : ∀ (ps : List (Int × ByteArray)) (ks : List Int) (j : Nat), (j < ks.length → odd (ks.getD j 0) = false) → keptOf (ps.take (j + 1)) (ks.take (j + 1)) = keptOf (ps.take j) (ks.take j)
  | [], _, _, _ => by simp [keptOf]
  | p :: ps, [], _, _ => by simp [keptOf]
  | p :: ps, k :: ks, 0, ho => by
    have ho : odd k = false := ho (by simp)
    simp [keptOf, ho]
  | p :: ps, k :: ks, j + 1, ho => by
    have ih := keptOf_no ps ks j (fun h => by have := ho (by simpa using h); simpa [List.getD] using this)
    simp only [List.take_succ_cons, keptOf, ih]
theorem keptOf_all : ∀ (ps : List (Int × ByteArray)) (ks : List Int), keptOf (ps.take ps.length) (ks.take ps.length) = keptOf ps ks
  | [], ks => by simp [keptOf]
  | p :: ps, [] => by simp [keptOf]
  | p :: ps, k :: ks => by
    have ih := keptOf_all ps ks
    simp only [List.length_cons, List.take_succ_cons, keptOf, ih]

theorem infoS1 : (Try.prog.info? 9).map (·.size) = some 1 := by kernel_rfl
/-- copy(d.now, d.last). -/
theorem copy_law (h : Op W b F g D g1 c1 g2 c2 v3) : ∃ W1, (∀ ty, (Builtin.copy_ #[53, 53] ty #[.slice (some ⟨g1, 0, none⟩) D.now.length c1, .slice (some ⟨g2, 0, none⟩) D.last.length c2]).run Try.prog W = .ok (goInt D.now.length) W1) ∧
    Op W1 b F g { D with now := D.last } g1 c1 g2 c2 v3 ∧ W.grownBy W1 (some g1) := by
  have hlen := h.ok.len
  obtain ⟨h0, inner, ⟨hl, ho⟩, hr⟩ := h.now
  rcases ho with ⟨hv, _⟩ | ⟨g', cap, cur, hv, hge, hb, hnc, hcm, hcs, ht⟩
  · cases hv
  injection hv with ha _ hc
  injection ha with ha
  injection ha with ha
  subst ha; subst hc
  replace hcs : cur.size = c1 := by simpa [Kd.string, Kd.scalar] using hcs
  have hcl : (D.last.map Value.string).length = D.now.length := by rw [List.length_map, hlen]
  have hsrc : ∀ j v, (D.last.map Value.string)[j]? = some v → W.cell? ((⟨g2, 0, none⟩ : Addr).add j) = some v := by
    intro j v hj
    rw [List.getElem?_map] at hj
    have hjl : j < D.last.length := by
      rcases Nat.lt_or_ge j D.last.length with h | h
      · exact h
      · rw [List.getElem?_eq_none h] at hj; cases hj
    have h2 := (h.at2 (j : Int) (by omega) (by omega)).1
    rw [add_at, Nat.zero_add]
    rw [Int.toNat_natCast] at h2
    rw [h2]
    rw [List.getElem?_eq_getElem hjl] at hj
    simp only [Option.map_some, Option.some.injEq] at hj
    rw [← hj]
    simp [rdOf, List.getD, hjl]
  have hfit : 0 + (D.last.map Value.string).length ≤ cur.size := by rw [hcl, hcs]; omega
  have hrun := fun ty => run_copy_row Try.prog W 53 53 ty 9 g1 0 D.now.length c1 ⟨g2, 0, none⟩ D.last.length c2 cur 9 (D.last.map Value.string) Try.underlying53 infoS1 hb (by rw [hcl, hlen]; exact (Nat.min_self _).symm) hsrc hfit (by intro v hv; obtain ⟨x, _, rfl⟩ := List.mem_map.1 hv; rfl)
  refine ⟨W.setRow g1 (cur.toList.take 0 ++ D.last.map Value.string ++ cur.toList.drop (0 + (D.last.map Value.string).length)).toArray, fun ty => (hrun ty).trans (by rw [hcl]), ?_, ⟨rfl, rfl, rfl, by simp, fun k hk hne => setRow_other W g1 k _ (fun e => hne (by rw [e]))⟩⟩
  have hoth : ∀ k, k ≠ g1 → ∀ X, (W.setRow g1 X).heap[k]? = W.heap[k]? := fun k hk X => setRow_other W g1 k X hk
  refine ⟨?_, h.ge, h.mem, ?_, ?_, ?_, h.ne, ⟨rfl, by show 0 < D.last.length; rw [hlen]; exact h.ok.pos, by show D.last.length ≤ _; rw [hlen]; exact h.ok.small, fun p hp => by have := h.ok.at_ p hp; show 0 ≤ p.1 ∧ p.1 < (D.last.length : Int); omega, h.ok.left0, h.ok.left1⟩⟩
  · rw [hoth g h.ne1]
    show _ = some (Obj.cells #[.slice (some ⟨g1, 0, none⟩) D.last.length c1, _, _, _, _] 59 (0, 0))
    rw [h.blk, hlen]
  · refine Kd.R_of_own (enc := Value.string) (h1 := fun _ => rfl) ⟨by simp [encs], .inr ⟨g1, c1, _, rfl, hge, setRow_heap W g1 cur _ 9 _ hb, by show D.last.length ≤ c1; rw [hlen]; exact hnc, hcm, ?_, ?_⟩⟩ (fun k hk => h0 k hk)
    · simp; omega
    · simp [encs]
  · exact Kd.R_mono (Kd.R_step (Kd.R_tight rfl h.last) (fun k hk hl => hoth k (by rw [show k = g2 by simpa [Value.ownBlock] using hk]; exact h.ne.symm) _)) (fun k hk => h.last.1 k hk.symm)
  · exact Kd.R_mono (Kd.R_step (Kd.R_tight rfl h.pend) (fun k hk hl => hoth k (fun e => h.ne13 (by rw [← hk, e])) _)) (fun k hk => h.pend.1 k hk.symm)
theorem step_copy {ops : Array Oper} {o : Oper} {a : Act} {W W1 : World} {K : Act → World → Prop} {Q : Exit → Act → World → Prop} {E : Prop} (hgd : o.guard = none) (d s : Operand)
    (ho : o.op = .call { callee := .builtin .copy, args := #[d, s], argTypes := #[53, 53] }) {x y : Value} (n : Nat) (hd : a.eval d = x) (hs : a.eval s = y)
    (hrun : ∀ ty, (Builtin.copy_ #[53, 53] ty #[x, y]).run Try.prog W = .ok (goInt n) W1) (h : K (a.put o.dst (goInt n)) W1) :
    if Region.wanted o (yielded ops a.tmps) = true then Oper.wp Try.prog o a W K Q else E := by
  have hw : Region.wanted o (yielded ops a.tmps) = true := by simp [Region.wanted, hgd]
  rw [if_pos hw]
  unfold Oper.wp
  simp [execOp, ho, resolve, invoke, builtin, hd, hs, hrun, Result.andThen]
  exact h

set_option maxHeartbeats 8000000 in
set_option maxRecDepth 100000 in
theorem Power_calls (h : IsDev W b F g D) (hp : D.pend.length ≤ 1000000) (K : Option Addr) (keep : List Int) (ck : Nat) (hk : ∀ W', Mv W W' F → (Kd.int .i64).C W' K keep.length keep) :
    Calls Try.prog 16 #[.pointer (some ⟨g, 0, none⟩), .slice K keep.length ck] W fun e W' => e = .returned (.tuple #[]) ∧ Moved W W' b F g (D.power keep) := by
  obtain ⟨g1, c1, g2, c2, v3, h⟩ := h
  obtain ⟨A, c, rfl⟩ := Kd.R_slice h.pend
  have e2 := h.cell2
  have HF0 := Aside0.mk h.ok
  have HF := Aside0.mk h.F2
  have HI0 := Aside0.mk h
  have HK := Aside0.mk hk
  have HP := Aside0.mk hp
  clear h hk hp
  go_enter Try.func16, Try.ntmps16
  go_wp2
  go_loopw [11] (fun v11 wr => ∃ j : Nat, v11 = .int .i64 (j : Int) ∧ j ≤ D.pend.length ∧ Aside0 (Op wr b F g { D with last := laid D.last (keptOf (D.pend.take j) (keep.take j)) } g1 c1 g2 c2 (.slice A D.pend.length c)) ∧ Aside0 (Mv W wr F)) (fun v11 _ => D.pend.length - (intOf v11).toNat)
  case atStart => exact ⟨0, rfl, Nat.zero_le _, ⟨by simpa [laid, keptOf] using HI0.out⟩, ⟨Mv.refl _ _⟩⟩
  case round =>
    clear HI0 e2
    obtain ⟨j, rfl, hj, HI, HM⟩ := hrel
    by_cases hlt : j < D.pend.length
    · have HLT := Aside0.mk hlt
      obtain ⟨ad, rfl, hx0, hx1⟩ := at_W (Kd.R_reads' HI.out.pend).2.2 (j : Int) (by omega) (by show (j : Int) < (D.pend.length : Nat); omega)
      simp only [Int.toNat_natCast] at hx0 hx1
      have hm : D.pend.getD j (0, ⟨#[]⟩) ∈ D.pend := by simp [List.getD, hlt]
      have hk := HF0.out.at_ _ hm
      have hY := keptOf_yes D.pend keep j hlt
      have hN := keptOf_no D.pend keep j
      generalize D.pend.getD j (0, ⟨#[]⟩) = x at hY hx0 hx1 hk
      have hk0 := eq_true hk.1
      have HK0 := Aside0.mk hk
      have hk1 := eq_true (show x.1 < (D.last.length : Int) by have := hk.2; have := HF0.out.len; omega)
      have hk2 := decide_eq_true hk.1
      have hk3 := decide_eq_true (show x.1 < (D.last.length : Int) by have := hk.2; have := HF0.out.len; omega)
      clear hm hk
      have hjb : j ≤ 1000000 := by have := HLT.out; have := HP.out; omega
      by_cases hkl : j < keep.length
      · have hkl1 := decide_eq_true (show (j : Int) < (keep.length : Int) by omega)
        have hkl2 := eq_true (show (j : Int) < (keep.length : Int) by omega)
        obtain ⟨adk, rfl, hkc⟩ := Kd.at_int (HK.out _ (HM.out.alloc (.cells #[.int .i64 x.1, .string x.2] 62))) (j : Int) (by omega) (by omega)
        simp only [Int.toNat_natCast] at hkc
        have hrd : rd keep (j : Int) = keep.getD j 0 := rfl
        rw [hrd] at hkc
        by_cases ho : odd (keep.getD j 0) = true
        · have HY := Aside0.mk (hY hkl ho)
          clear hY hN
          have ho1 : decide (0 < Go.bits .and .i64 (keep.getD j 0) 1) = true := ho
          generalize keep.getD j 0 = kv at ho1 hkc
          clear ho
          go_wp2
          clear hx0 hx1 hkc
          have hb0 : Below wr.heap.size wr (wr.alloc (.cells #[.int .i64 x.1, .string x.2] 62)) := below_alloc (Below.refl _ _) _
          have hxk := heap_alloc_new wr (.cells #[.int .i64 x.1, .string x.2] 62)
          have hI := HI.out.below hb0
          have hM := HM.out.alloc (.cells #[.int .i64 x.1, .string x.2] 62)
          generalize wr.alloc (.cells #[.int .i64 x.1, .string x.2] 62) = W2 at hb0 hxk hI hM ⊢
          generalize wr.heap.size = gb at hxk ⊢
          have q0 : W2.cell? ⟨gb, 0, none⟩ = some (.int .i64 x.1) := (blk_cell hxk 0).trans rfl
          have q1 : W2.cell? ⟨gb, 1, none⟩ = some (.string x.2) := (blk_cell hxk 1).trans rfl
          have e1 := hI.cell1
          obtain ⟨ea, ef⟩ := hI.at2 x.1 HK0.out.1 (by show x.1 < ((laid D.last _).length : Int); rw [laid_length]; exact of_eq_true hk1)
          simp only [laid_length] at e1
          have n1 := blk_ne hI.blk hxk (by decide)
          have HI2 := Aside0.mk hI
          have HM2 := Aside0.mk hM
          clear hb0 hxk hI hM HI HM
          go_wp2
          go_region
          go_wp2
          go_roundw
          case rel =>
            refine ⟨j + 1, by go_num, by omega, ⟨?_⟩, ⟨?_⟩⟩
            · have hO := HI2.out.drew.lastAt x.1 x.2
              rw [HY.out, laid_append]
              exact hO
            · exact (HM2.out.drew).setCell (.inl HI2.out.F2) _
          case measure => simp [intOf]; omega
        · have HY := Aside0.mk (hN (fun _ => by simpa using ho))
          clear hY hN
          have ho1 : decide (0 < Go.bits .and .i64 (keep.getD j 0) 1) = false := by simpa [odd] using ho
          generalize keep.getD j 0 = kv at ho1 hkc
          clear ho
          go_wp2
          go_roundw
          case rel =>
            refine ⟨j + 1, by go_num, by omega, ⟨?_⟩, ⟨?_⟩⟩
            · rw [HY.out]
              exact HI.out.below (below_alloc (Below.refl _ _) _)
            · exact HM.out.alloc _
          case measure => simp [intOf]; omega
      · have hkl1 := decide_eq_false (show ¬ ((j : Int) < (keep.length : Int)) by omega)
        have hkl2 := eq_false (show ¬ ((j : Int) < (keep.length : Int)) by omega)
        have HY := Aside0.mk (hN (fun h => absurd h hkl))
        clear hY hN
        go_wp2
        go_roundw
        case rel =>
          refine ⟨j + 1, by go_num, by omega, ⟨?_⟩, ⟨?_⟩⟩
          · rw [HY.out]
            exact HI.out.below (below_alloc (Below.refl _ _) _)
          · exact HM.out.alloc _
        case measure => simp [intOf]; omega
    · obtain rfl : j = D.pend.length := by omega
      go_wp2
      have HI1 := Aside0.mk HI.out.drew
      have e0 := HI.out.cell0
      have e1 := HI.out.cell1
      obtain ⟨W1, hrun, hO, hG⟩ := copy_law HI1.out
      have HO := Aside0.mk hO
      have HG := Aside0.mk hG
      simp only [laid_length] at e1 hrun
      have HR := Aside0.mk hrun
      clear hO hG hrun
      go_region_law (refine step_copy rfl (.tmp 41) (.tmp 45) rfl _ rfl rfl HR.out ?_)
      all_goals
        go_wp2_with (first | (go_at_call 29; refine (forget_calls HO.out.is).mono ?_; rintro e w2 ⟨rfl, F2, ⟨g3, c3, g4, c4, v5, hO2⟩, hF2, hM2⟩; have e3 := hO2.cell3; have f3 := hO2.frz 3; have e4 := hO2.cell4; have f4 := hO2.frz 4; have HO2 := Aside0.mk hO2; have HF2 := Aside0.mk hF2; have HM2 := Aside0.mk hM2; clear hO2 hF2 hM2))
        first | go_end0 | ((try simp only [Exit.inBlock, Exit.then]); refine bodyPost_ret (results_none rfl _ _ _) rfl ?_)
        have hI := ((HO2.out.left (-1) (by omega) (by omega)).power false).is
        have hm1 : Mv W W1 F := (HM.out.drew).grown HG.out (fun k hk => .inl (by injection hk with hk; rw [← hk]; exact HI1.out.F1))
        have hm2 : Mv W w2 F := hm1.trans HM2.out (fun _ h => .inl h)
        have hfin : ∀ k, F2 k → F k ∨ W.heap.size ≤ k := fun k hk => (HF2.out k hk).elim .inl (fun h => .inr (Nat.le_trans hm1.size h))
        refine ⟨rfl, F2, ?_, hfin, (hm2.setCell (hfin g HO2.out.mem) _).setCell (hfin g HO2.out.mem) _⟩
        have hx : D.power keep = { now := laid D.last (keptOf (D.pend.take D.pend.length) (keep.take D.pend.length)), last := laid D.last (keptOf (D.pend.take D.pend.length) (keep.take D.pend.length)), pend := [], left := -1, down := false } := by rw [keptOf_all]; rfl
        rw [hx]
        exact hI
end
end Go.Proofs.Ytakpedenoocmpaa.Dv
