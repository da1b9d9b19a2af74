import Derived.Test.YtakpedenoocmpaaDvObs
import Derived.Test.YtakpedenoocmpaaDvShown2
/-! DevCopy's plain part; an act of both (does), alike. -/
namespace Go.Proofs.Ytakpedenoocmpaa.Dv
open Go.RowKit Go.Proofs.YtakpedenoocmpaaW.PrintWords Go.Proofs.YtakpedenoocmpaaW.PrintLast Go.Proofs.YtakpedenoocmpaaW.PrintMore
attribute [local go_sem] max2_int min2_int max_two min_two max_three min_three max_four min_four
set_option linter.unusedVariables false
set_option linter.unusedSimpArgs false

/-- What an act may be. -/
structure DvFit (x : Fn.S33) : Prop where
  op : -9223372036854775808 ≤ x.f0
  n : x.f2 < 9223372036854775808
abbrev short : ByteArray := ⟨#[115, 104, 111, 114, 116]⟩
def actD (D : Dev) (x : Fn.S33) : Dev :=
  if pk x.f0 10 = 6 then D.flush.2 else if pk x.f0 10 = 7 then D.arm x.f2 else if pk x.f0 10 = 8 then D.power x.f3 else if pk x.f0 10 = 9 then (D.write x.f1 short).2 else (D.write x.f1 (sec x.f2)).2
def actR (D : Dev) (x : Fn.S33) : Dev :=
  if pk x.f0 10 = 6 then (Rf.rflush D).2 else if pk x.f0 10 = 7 then D.arm x.f2 else if pk x.f0 10 = 8 then D.power x.f3 else if pk x.f0 10 = 9 then (D.write x.f1 short).2 else (D.write x.f1 (sec x.f2)).2
/-- What is pending, laid over the last flush, is what is there now. -/
def Good (D : Dev) : Prop := laid D.last D.pend = D.now
theorem spend_good {D : Dev} (h : Good D) : Good D.spend.2 := by unfold Good; rw [spend_last, spend_pend, spend_now]; exact h
theorem Good.write {D : Dev} (h : Good D) (i : Int) (s : ByteArray) : Good (D.write i s).2 := by
  unfold Dev.write
  split
  · split
    · split
      · have hs := spend_good h
        unfold Good at hs ⊢
        show laid D.spend.2.last (D.spend.2.pend ++ [(i, s)]) = D.spend.2.now.set i.toNat s
        rw [laid_append, hs]
        rfl
      · exact spend_good h
    · exact h
  · exact h
theorem Good.rflush {D : Dev} (h : Good D) : Rf.rflush D = D.flush := by
  unfold Rf.rflush Dev.flush
  rw [show laid D.last D.pend = D.now from h]
theorem Good.flush {D : Dev} (h : Good D) : Good D.flush.2 := by
  unfold Dev.flush
  split
  · exact h
  · split
    · show laid (laid D.last D.pend) [] = D.spend.2.now
      rw [show laid D.last D.pend = D.now from h, spend_now]
      rfl
    · exact spend_good h
theorem Good.fresh (n : Nat) : Good (Dev.fresh n) := rfl
theorem Good.actD {D : Dev} (h : Good D) (x : Fn.S33) : Good (actD D x) ∧ actR D x = actD D x := by
  unfold Dv.actD actR
  rw [h.rflush]
  refine ⟨?_, rfl⟩
  split
  · exact h.flush
  · split
    · exact h
    · split
      · rfl
      · split
        · exact h.write _ _
        · exact h.write _ _
theorem pend_spend (D : Dev) : D.spend.2.pend.length ≤ D.pend.length + 1 := by rw [spend_pend]; omega
theorem pend_write (D : Dev) (i : Int) (s : ByteArray) : (D.write i s).2.pend.length ≤ D.pend.length + 1 := by
  unfold Dev.write
  split
  · split
    · split
      · simp [Dev.put, spend_pend]
      · exact pend_spend D
    · exact Nat.le_succ _
  · exact Nat.le_succ _
theorem pend_flush (D : Dev) : D.flush.2.pend.length ≤ D.pend.length + 1 := by
  unfold Dev.flush
  split
  · exact Nat.le_succ _
  · split
    · exact Nat.zero_le _
    · exact pend_spend D
theorem pend_rflush (D : Dev) : (Rf.rflush D).2.pend.length ≤ D.pend.length + 1 := by
  unfold Rf.rflush
  split
  · exact Nat.le_succ _
  · split
    · exact Nat.zero_le _
    · exact pend_spend D
theorem pend_actD (D : Dev) (x : Fn.S33) : (actD D x).pend.length ≤ D.pend.length + 1 := by
  unfold actD
  split
  · exact pend_flush D
  · split
    · exact Nat.le_succ _
    · split
      · exact Nat.zero_le _
      · split <;> exact pend_write _ _ _
theorem pend_actR (D : Dev) (x : Fn.S33) : (actR D x).pend.length ≤ D.pend.length + 1 := by
  unfold actR
  split
  · exact pend_rflush D
  · split
    · exact Nat.le_succ _
    · split
      · exact Nat.zero_le _
      · split <;> exact pend_write _ _ _

section
variable {W : World} {b g : Nat} {F : Nat → Prop} {D : Dev}
set_option maxHeartbeats 8000000 in
set_option maxRecDepth 100000 in
theorem Sectors_calls (h : IsDev W b F g D) : Calls Try.prog 36 #[.pointer (some ⟨g, 0, none⟩)] W fun e W' => e = .returned (.int .i64 D.now.length) ∧ Drawn0 W W' := by
  obtain ⟨g1, c1, g2, c2, v3, h⟩ := h
  have h0 := h.cell0
  clear h
  go_enter Try.func36, Try.ntmps36
  go_wp2
  go_ret
  exact ⟨rfl, by repeat (first | exact Drawn0.refl _ | apply Drawn0.step)⟩
end
/-- In the midst of an act: its struct lies in block ga. -/
structure DoSt (W0 : World) (b ga : Nat) (x : Fn.S33) (K : Option Addr) (ck : Nat) (V : World) : Prop where
  blk : V.heap[ga]? = some (.cells #[.int .i64 x.f0, .int .i64 x.f1, .int .i64 x.f2, .slice K x.f3.length ck] 33 (0, 0))
  fr : OFr b W0 V
section
variable {W0 V V1 : World} {b ga : Nat} {x : Fn.S33} {K : Option Addr} {ck : Nat}
theorem DoSt.start (hb : b ≤ W0.heap.size) : DoSt W0 b W0.heap.size x K ck (W0.alloc (.cells #[.int .i64 x.f0, .int .i64 x.f1, .int .i64 x.f2, .slice K x.f3.length ck] 33)) := ⟨heap_alloc_new W0 _, OFr.of_grow (below_alloc (Below.refl _ _) _) hb⟩
theorem DoSt.ofr (h : DoSt W0 b ga x K ck V) (k : OFr b V V1) : DoSt W0 b ga x K ck V1 := ⟨(k.kept _ _ _ _ h.blk (by unfold Ot; omega)).trans h.blk, h.fr.trans k⟩
theorem DoSt.below (h : DoSt W0 b ga x K ck V) (hb : b ≤ W0.heap.size) (k : Below V.heap.size V V1) : DoSt W0 b ga x K ck V1 := h.ofr (OFr.of_grow k (Nat.le_trans hb h.fr.below.size))
theorem DoSt.drawn (h : DoSt W0 b ga x K ck V) (k : Drawn0 V V1) : DoSt W0 b ga x K ck V1 := by
  obtain ⟨n, rfl⟩ := k
  exact ⟨h.blk, ⟨pw_below_drewN h.fr.below n, h.fr.kept⟩⟩
theorem DoSt.le (h : DoSt W0 b ga x K ck V) (hb : b ≤ W0.heap.size) : b ≤ V.heap.size := Nat.le_trans hb h.fr.below.size
end
attribute [local irreducible] sec blankS Dev.write Dev.flush Dev.power Dev.arm Dev.fresh mk Dev.put Rf.rflush
section
variable {W : World} {b : Nat} {L : List Ob}
set_option maxHeartbeats 8000000 in
set_option maxRecDepth 100000 in
theorem does_calls (h : Obs W b L) (i j : Nat) (hij : i ≠ j) {g m : Nat} {D R : Dev} (hi : L[i]? = some (.dev g D)) (hj : L[j]? = some (.ref m R)) (hb : b ≤ W.heap.size) (hD : D.pend.length ≤ 1000000) (hR : R.pend.length ≤ 1000000) (x : Fn.S33) (K : Option Addr) (ck : Nat) (hk : ∀ W', Below b W W' → (Kd.int .i64).C W' K x.f3.length x.f3) (hx : DvFit x) :
    Calls Try.prog 22 #[.pointer (some ⟨g, 0, none⟩), .pointer (some ⟨m, 0, none⟩), .agg #[.int .i64 x.f0, .int .i64 x.f1, .int .i64 x.f2, .slice K x.f3.length ck]] W fun e W1 => ∃ v, e = .returned (.bool v) ∧ Obs W1 b ((L.set i (.dev g (actD D x))).set j (.ref m (actR R x))) ∧ OFr b W W1 := by
  have HO := Aside0.mk h
  have HX := Aside0.mk hx
  have HBB := Aside0.mk hb
  have HI := Aside0.mk hi
  have HJ := Aside0.mk (fun o => show (L.set i o)[j]? = some (.ref m R) from by rw [List.getElem?_set_ne hij]; exact hj)
  have HPD := Aside0.mk hD
  have HPR := Aside0.mk hR
  have HK := Aside0.mk hk
  have HS := Aside0.mk (DoSt.start (x := x) (K := K) (ck := ck) hb)
  have HW := Aside0.mk (HO.out.below (below_alloc (Below.refl W.heap.size W) (.cells #[.int .i64 x.f0, .int .i64 x.f1, .int .i64 x.f2, .slice K x.f3.length ck] 33)))
  clear h hx hb hi hj hD hR hk
  by_cases h6 : pk x.f0 10 = 6
  · have e1 : actD D x = D.flush.2 := by unfold actD; rw [if_pos h6]
    have e2 : actR R x = (Rf.rflush R).2 := by unfold actR; rw [if_pos h6]
    rw [e1, e2]
    clear e1 e2
    go_enter Try.func22, Try.ntmps22
    go_wp2_with (first
      | (go_at_call 11; generalize W.alloc (.cells #[.int .i64 x.f0, .int .i64 x.f1, .int .i64 x.f2, .slice K x.f3.length ck] 33) = W2 at HS HW ⊢; generalize W.heap.size = ga at HS ⊢; (with_reducible refine (pick_calls x.f0 10 _ HX.out.1 (by decide)).mono ?_); rintro e w1 ⟨rfl, hd⟩; rw [h6]; have HS' := Aside0.mk (HS.out.drawn hd); have HW' := Aside0.mk (HW.out.drawn hd); clear HS HW; have HS := HS'; have HW := HW'; clear HS' HW'; have q1 : w1.cell? ⟨ga, 1, none⟩ = some (.int .i64 x.f1) := (blk_cell HS.out.blk 1).trans rfl; have q2 : w1.cell? ⟨ga, 2, none⟩ = some (.int .i64 x.f2) := (blk_cell HS.out.blk 2).trans rfl; have q3 : w1.cell? ⟨ga, 3, none⟩ = some (.slice K x.f3.length ck) := (blk_cell HS.out.blk 3).trans rfl; clear hd)
      | (go_at_call 14; (have hC := oFlush HW.out i HI.out (HS.out.le HBB.out) HPD.out; with_reducible refine hC.mono ?_; clear hC); rintro e w2 ⟨rfl, hO, hF⟩; clear q1 q2 q3; have HS' := Aside0.mk (HS.out.ofr hF); have HW' := Aside0.mk (hO); clear HS HW; have HS := HS'; have HW := HW'; clear HS' HW'; have q1 : w2.cell? ⟨ga, 1, none⟩ = some (.int .i64 x.f1) := (blk_cell HS.out.blk 1).trans rfl; have q2 : w2.cell? ⟨ga, 2, none⟩ = some (.int .i64 x.f2) := (blk_cell HS.out.blk 2).trans rfl; have q3 : w2.cell? ⟨ga, 3, none⟩ = some (.slice K x.f3.length ck) := (blk_cell HS.out.blk 3).trans rfl; clear hO hF)
      | (go_at_call 32; (have hC := rFlush HW.out j (HJ.out _) (HS.out.le HBB.out); with_reducible refine hC.mono ?_; clear hC); rintro e w3 ⟨rfl, hO, hF⟩; clear q1 q2 q3; have HS' := Aside0.mk (HS.out.ofr hF); have HW' := Aside0.mk (hO); clear HS HW; have HS := HS'; have HW := HW'; clear HS' HW'; have q1 : w3.cell? ⟨ga, 1, none⟩ = some (.int .i64 x.f1) := (blk_cell HS.out.blk 1).trans rfl; have q2 : w3.cell? ⟨ga, 2, none⟩ = some (.int .i64 x.f2) := (blk_cell HS.out.blk 2).trans rfl; have q3 : w3.cell? ⟨ga, 3, none⟩ = some (.slice K x.f3.length ck) := (blk_cell HS.out.blk 3).trans rfl; clear hO hF))
    go_ret
    exact ⟨_, rfl, HW.out, HS.out.fr⟩
  · by_cases h7 : pk x.f0 10 = 7
    · have e1 : actD D x = D.arm x.f2 := by unfold actD; rw [if_neg h6, if_pos h7]
      have e2 : actR R x = R.arm x.f2 := by unfold actR; rw [if_neg h6, if_pos h7]
      rw [e1, e2]
      clear e1 e2
      clear h6
      go_enter Try.func22, Try.ntmps22
      go_wp2_with (first
        | (go_at_call 11; generalize W.alloc (.cells #[.int .i64 x.f0, .int .i64 x.f1, .int .i64 x.f2, .slice K x.f3.length ck] 33) = W2 at HS HW ⊢; generalize W.heap.size = ga at HS ⊢; (with_reducible refine (pick_calls x.f0 10 _ HX.out.1 (by decide)).mono ?_); rintro e w1 ⟨rfl, hd⟩; rw [h7]; have HS' := Aside0.mk (HS.out.drawn hd); have HW' := Aside0.mk (HW.out.drawn hd); clear HS HW; have HS := HS'; have HW := HW'; clear HS' HW'; have q1 : w1.cell? ⟨ga, 1, none⟩ = some (.int .i64 x.f1) := (blk_cell HS.out.blk 1).trans rfl; have q2 : w1.cell? ⟨ga, 2, none⟩ = some (.int .i64 x.f2) := (blk_cell HS.out.blk 2).trans rfl; have q3 : w1.cell? ⟨ga, 3, none⟩ = some (.slice K x.f3.length ck) := (blk_cell HS.out.blk 3).trans rfl; clear hd)
        | (go_at_call 17; (have hC := oArm HW.out i HI.out (HS.out.le HBB.out) x.f2 HX.out.2; with_reducible refine hC.mono ?_; clear hC); rintro e w2 ⟨rfl, hO, hF⟩; clear q1 q2 q3; have HS' := Aside0.mk (HS.out.ofr hF); have HW' := Aside0.mk (hO); clear HS HW; have HS := HS'; have HW := HW'; clear HS' HW'; have q1 : w2.cell? ⟨ga, 1, none⟩ = some (.int .i64 x.f1) := (blk_cell HS.out.blk 1).trans rfl; have q2 : w2.cell? ⟨ga, 2, none⟩ = some (.int .i64 x.f2) := (blk_cell HS.out.blk 2).trans rfl; have q3 : w2.cell? ⟨ga, 3, none⟩ = some (.slice K x.f3.length ck) := (blk_cell HS.out.blk 3).trans rfl; clear hO hF)
        | (go_at_call 33; (have hC := rArm HW.out j (HJ.out _) (HS.out.le HBB.out) x.f2 HX.out.2; with_reducible refine hC.mono ?_; clear hC); rintro e w3 ⟨rfl, hO, hF⟩; clear q1 q2 q3; have HS' := Aside0.mk (HS.out.ofr hF); have HW' := Aside0.mk (hO); clear HS HW; have HS := HS'; have HW := HW'; clear HS' HW'; have q1 : w3.cell? ⟨ga, 1, none⟩ = some (.int .i64 x.f1) := (blk_cell HS.out.blk 1).trans rfl; have q2 : w3.cell? ⟨ga, 2, none⟩ = some (.int .i64 x.f2) := (blk_cell HS.out.blk 2).trans rfl; have q3 : w3.cell? ⟨ga, 3, none⟩ = some (.slice K x.f3.length ck) := (blk_cell HS.out.blk 3).trans rfl; clear hO hF))
      go_ret
      exact ⟨_, rfl, HW.out, HS.out.fr⟩
    · by_cases h8 : pk x.f0 10 = 8
      · have e1 : actD D x = D.power x.f3 := by unfold actD; rw [if_neg h6, if_neg h7, if_pos h8]
        have e2 : actR R x = R.power x.f3 := by unfold actR; rw [if_neg h6, if_neg h7, if_pos h8]
        rw [e1, e2]
        clear e1 e2
        clear h6 h7
        go_enter Try.func22, Try.ntmps22
        go_wp2_with (first
          | (go_at_call 11; generalize W.alloc (.cells #[.int .i64 x.f0, .int .i64 x.f1, .int .i64 x.f2, .slice K x.f3.length ck] 33) = W2 at HS HW ⊢; generalize W.heap.size = ga at HS ⊢; (with_reducible refine (pick_calls x.f0 10 _ HX.out.1 (by decide)).mono ?_); rintro e w1 ⟨rfl, hd⟩; rw [h8]; have HS' := Aside0.mk (HS.out.drawn hd); have HW' := Aside0.mk (HW.out.drawn hd); clear HS HW; have HS := HS'; have HW := HW'; clear HS' HW'; have q1 : w1.cell? ⟨ga, 1, none⟩ = some (.int .i64 x.f1) := (blk_cell HS.out.blk 1).trans rfl; have q2 : w1.cell? ⟨ga, 2, none⟩ = some (.int .i64 x.f2) := (blk_cell HS.out.blk 2).trans rfl; have q3 : w1.cell? ⟨ga, 3, none⟩ = some (.slice K x.f3.length ck) := (blk_cell HS.out.blk 3).trans rfl; clear hd)
          | (go_at_call 16; (have hC := oPower HW.out i HI.out (HS.out.le HBB.out) HPD.out K x.f3 ck (fun W' hW => HK.out W' (HS.out.fr.below.trans hW)); with_reducible refine hC.mono ?_; clear hC); rintro e w2 ⟨rfl, hO, hF⟩; clear q1 q2 q3; have HS' := Aside0.mk (HS.out.ofr hF); have HW' := Aside0.mk (hO); clear HS HW; have HS := HS'; have HW := HW'; clear HS' HW'; have q1 : w2.cell? ⟨ga, 1, none⟩ = some (.int .i64 x.f1) := (blk_cell HS.out.blk 1).trans rfl; have q2 : w2.cell? ⟨ga, 2, none⟩ = some (.int .i64 x.f2) := (blk_cell HS.out.blk 2).trans rfl; have q3 : w2.cell? ⟨ga, 3, none⟩ = some (.slice K x.f3.length ck) := (blk_cell HS.out.blk 3).trans rfl; clear hO hF)
          | (go_at_call 34; (have hC := rPower HW.out j (HJ.out _) (HS.out.le HBB.out) HPR.out K x.f3 ck (fun W' hW => HK.out W' (HS.out.fr.below.trans hW)); with_reducible refine hC.mono ?_; clear hC); rintro e w3 ⟨rfl, hO, hF⟩; clear q1 q2 q3; have HS' := Aside0.mk (HS.out.ofr hF); have HW' := Aside0.mk (hO); clear HS HW; have HS := HS'; have HW := HW'; clear HS' HW'; have q1 : w3.cell? ⟨ga, 1, none⟩ = some (.int .i64 x.f1) := (blk_cell HS.out.blk 1).trans rfl; have q2 : w3.cell? ⟨ga, 2, none⟩ = some (.int .i64 x.f2) := (blk_cell HS.out.blk 2).trans rfl; have q3 : w3.cell? ⟨ga, 3, none⟩ = some (.slice K x.f3.length ck) := (blk_cell HS.out.blk 3).trans rfl; clear hO hF))
        go_ret
        exact ⟨_, rfl, HW.out, HS.out.fr⟩
      · by_cases h9 : pk x.f0 10 = 9
        · have e1 : actD D x = (D.write x.f1 short).2 := by unfold actD; rw [if_neg h6, if_neg h7, if_neg h8, if_pos h9]
          have e2 : actR R x = (R.write x.f1 short).2 := by unfold actR; rw [if_neg h6, if_neg h7, if_neg h8, if_pos h9]
          rw [e1, e2]
          clear e1 e2
          clear h6 h7 h8
          go_enter Try.func22, Try.ntmps22
          go_wp2_with (first
            | (go_at_call 11; generalize W.alloc (.cells #[.int .i64 x.f0, .int .i64 x.f1, .int .i64 x.f2, .slice K x.f3.length ck] 33) = W2 at HS HW ⊢; generalize W.heap.size = ga at HS ⊢; (with_reducible refine (pick_calls x.f0 10 _ HX.out.1 (by decide)).mono ?_); rintro e w1 ⟨rfl, hd⟩; rw [h9]; have HS' := Aside0.mk (HS.out.drawn hd); have HW' := Aside0.mk (HW.out.drawn hd); clear HS HW; have HS := HS'; have HW := HW'; clear HS' HW'; have q1 : w1.cell? ⟨ga, 1, none⟩ = some (.int .i64 x.f1) := (blk_cell HS.out.blk 1).trans rfl; have q2 : w1.cell? ⟨ga, 2, none⟩ = some (.int .i64 x.f2) := (blk_cell HS.out.blk 2).trans rfl; have q3 : w1.cell? ⟨ga, 3, none⟩ = some (.slice K x.f3.length ck) := (blk_cell HS.out.blk 3).trans rfl; clear hd))
          have HCC := Aside0.mk (fun V (hS : DoSt W b ga x K ck V) => And.intro (show V.cell? ⟨ga, 1, none⟩ = some (.int .i64 x.f1) from (blk_cell hS.blk 1).trans rfl) (show V.cell? ⟨ga, 2, none⟩ = some (.int .i64 x.f2) from (blk_cell hS.blk 2).trans rfl))
          have hs0 := HS.out.drawn (show Drawn0 w1 w1.drew from ⟨1, rfl⟩)
          have hw0 := HW.out.drawn (show Drawn0 w1 w1.drew from ⟨1, rfl⟩)
          clear q1 q2 q3
          go_region_held3 (fun V => V.cell? ⟨ga, 1, none⟩ = some (.int .i64 x.f1) ∧ V.cell? ⟨ga, 2, none⟩ = some (.int .i64 x.f2))
            (first | exact HCC.out _ hs5 | exact HCC.out _ hs4 | exact HCC.out _ hs3 | exact HCC.out _ hs2 | exact HCC.out _ hs0) (first
            | (go_at_call 12; (have hC := oWrite hw0 i HI.out (hs0.le HBB.out) HPD.out x.f1 short; refine hC.mono ?_; clear hC); rintro e w2 ⟨rfl, hw2, hF2⟩; have hs2 := hs0.ofr hF2)
            | (go_at_call 35; (have hC := rWrite hw2 j (HJ.out _) (hs2.le HBB.out) HPR.out x.f1 short; refine hC.mono ?_; clear hC); rintro e w3 ⟨rfl, hw5, hF5⟩; have hs5 := hs2.ofr hF5))
          go_wp2
          go_ret
          exact ⟨_, rfl, hw5, hs5.fr⟩
        · have e1 : actD D x = (D.write x.f1 (sec x.f2)).2 := by unfold actD; rw [if_neg h6, if_neg h7, if_neg h8, if_neg h9]
          have e2 : actR R x = (R.write x.f1 (sec x.f2)).2 := by unfold actR; rw [if_neg h6, if_neg h7, if_neg h8, if_neg h9]
          rw [e1, e2]
          clear e1 e2
          have g6 := beq_eq_false_iff_ne.mpr h6
          have g7 := beq_eq_false_iff_ne.mpr h7
          have g8 := beq_eq_false_iff_ne.mpr h8
          have g9 := beq_eq_false_iff_ne.mpr h9
          clear h6 h7 h8 h9
          generalize hpk : pk x.f0 10 = p at g6 g7 g8 g9
          have HPK := Aside0.mk hpk
          clear hpk
          go_enter Try.func22, Try.ntmps22
          go_wp2_with (first
            | (go_at_call 11; generalize W.alloc (.cells #[.int .i64 x.f0, .int .i64 x.f1, .int .i64 x.f2, .slice K x.f3.length ck] 33) = W2 at HS HW ⊢; generalize W.heap.size = ga at HS ⊢; (with_reducible refine (pick_calls x.f0 10 _ HX.out.1 (by decide)).mono ?_); rintro e w1 ⟨rfl, hd⟩; rw [HPK.out]; have HS' := Aside0.mk (HS.out.drawn hd); have HW' := Aside0.mk (HW.out.drawn hd); clear HS HW; have HS := HS'; have HW := HW'; clear HS' HW'; have q1 : w1.cell? ⟨ga, 1, none⟩ = some (.int .i64 x.f1) := (blk_cell HS.out.blk 1).trans rfl; have q2 : w1.cell? ⟨ga, 2, none⟩ = some (.int .i64 x.f2) := (blk_cell HS.out.blk 2).trans rfl; have q3 : w1.cell? ⟨ga, 3, none⟩ = some (.slice K x.f3.length ck) := (blk_cell HS.out.blk 3).trans rfl; clear hd))
          have HCC := Aside0.mk (fun V (hS : DoSt W b ga x K ck V) => And.intro (show V.cell? ⟨ga, 1, none⟩ = some (.int .i64 x.f1) from (blk_cell hS.blk 1).trans rfl) (show V.cell? ⟨ga, 2, none⟩ = some (.int .i64 x.f2) from (blk_cell hS.blk 2).trans rfl))
          have hs0 := HS.out.drawn (show Drawn0 w1 w1.drew from ⟨1, rfl⟩)
          have hw0 := HW.out.drawn (show Drawn0 w1 w1.drew from ⟨1, rfl⟩)
          clear q1 q2 q3
          go_region_held3 (fun V => V.cell? ⟨ga, 1, none⟩ = some (.int .i64 x.f1) ∧ V.cell? ⟨ga, 2, none⟩ = some (.int .i64 x.f2))
            (first | exact HCC.out _ hs5 | exact HCC.out _ hs4 | exact HCC.out _ hs3 | exact HCC.out _ hs2 | exact HCC.out _ hs0) (first
            | (go_at_call 13; (have hq_ := hs3; clear hq_); (with_reducible refine (sector_calls _ _).mono ?_); rintro e w4 ⟨rfl, hb4⟩; have hs4 := hs3.below HBB.out hb4; have hw4 := hw3.below hb4)
            | (go_at_call 13; (with_reducible refine (sector_calls _ _).mono ?_); rintro e w2 ⟨rfl, hb2⟩; have hs2 := hs0.below HBB.out hb2; have hw2 := hw0.below hb2)
            | (go_at_call 12; (have hC := oWrite hw2 i HI.out (hs2.le HBB.out) HPD.out x.f1 (sec x.f2); refine hC.mono ?_; clear hC); rintro e w3 ⟨rfl, hw3, hF3⟩; have hs3 := hs2.ofr hF3)
            | (go_at_call 35; (have hC := rWrite hw4 j (HJ.out _) (hs4.le HBB.out) HPR.out x.f1 (sec x.f2); refine hC.mono ?_; clear hC); rintro e w5 ⟨rfl, hw5, hF5⟩; have hs5 := hs4.ofr hF5))
          go_wp2
          go_ret
          exact ⟨_, rfl, hw5, hs5.fr⟩
end
end Go.Proofs.Ytakpedenoocmpaa.Dv
