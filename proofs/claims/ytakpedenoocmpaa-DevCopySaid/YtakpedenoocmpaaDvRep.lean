import Derived.Test.YtakpedenoocmpaaDvLeaf
/-! slices.Repeat of one string. -/
namespace Go.Proofs.Ytakpedenoocmpaa.Dv
open Go.RowKit Go.Proofs.YtakpedenoocmpaaW.PrintWords Go.Proofs.YtakpedenoocmpaaW.PrintLast Go.Proofs.YtakpedenoocmpaaW.PrintMore
attribute [local go_sem] max2_int min2_int max_two min_two max_three min_three max_four min_four
set_option linter.unusedVariables false
set_option linter.unusedSimpArgs false

theorem wpList_copyR {ops : Array Oper} {rest : List Oper} {o : Oper} {a : Act} {W W1 : World} {Q : Exit → Act → World → Prop} (hgd : o.guard = none) (d s : Operand)
    (ho : o.op = .call { callee := .builtin .copy, args := #[d, s], argTypes := #[53, 53] }) {x y : Value} (n : Nat) (hd : a.eval d = x) (hs : a.eval s = y)
    (hrun : ∀ ty, (Builtin.copy_ #[53, 53] ty #[x, y]).run Try.prog W = .ok (goInt n) W1) (h : wpList Try.prog ops Q rest (a.put o.dst (goInt n)) W1) :
    wpList Try.prog ops Q (o :: rest) a W := by
  refine wpList_plain hgd fun K hK => ?_
  unfold Oper.wp
  simp [execOp, ho, resolve, invoke, builtin, hd, hs, hrun, Result.andThen]
  exact hK _ _ h

/-- block gn of W: n cells, of which the first k are s. -/
def Row (W : World) (gn n k : Nat) (s : ByteArray) : Prop := ∃ cur : Array Value, W.heap[gn]? = some (.cells cur 9 (0, 0)) ∧ cur.size = n ∧ cur.toList.take k = List.replicate k (.string s)
theorem Row.drew {W : World} {gn n k : Nat} {s : ByteArray} (h : Row W gn n k s) : Row W.drew gn n k s := h
theorem addr_add_zero (ad : Addr) : ad.add 0 = ad := by cases ad with | mk b o sp => cases sp <;> simp [Addr.add]
/-- a copy of the first cell. -/
theorem row_one {W : World} {gn n cn cx : Nat} {s : ByteArray} {ad : Addr} (h : Row W gn n 0 s) (h1 : 1 ≤ n) (hx : W.cell? ad = some (.string s)) :
    ∃ W1, (∀ ty, (Builtin.copy_ #[53, 53] ty #[.slice (some ⟨gn, 0, none⟩) n cn, .slice (some ad) 1 cx]).run Try.prog W = .ok (goInt (1 : Nat)) W1) ∧ Row W1 gn n 1 s ∧ W.grownBy W1 (some gn) := by
  obtain ⟨cur, hb, hs, _⟩ := h
  have hsrc : ∀ j v, ([.string s] : List Value)[j]? = some v → W.cell? (ad.add j) = some v := by
    intro j v hj
    cases j with
    | zero => simp at hj; rw [← hj, addr_add_zero]; exact hx
    | succ j => simp at hj
  have hrun := fun ty => run_copy_row Try.prog W 53 53 ty 9 gn 0 n cn ad 1 cx cur 9 [.string s] Try.underlying53 infoS1 hb (by show 1 = Nat.min 1 n; exact (Nat.min_eq_left h1).symm) hsrc (by simp; omega) (by intro v hv; simp at hv; rw [hv]; rfl)
  refine ⟨_, hrun, ⟨_, setRow_heap W gn cur _ 9 _ hb, ?_, ?_⟩, ⟨rfl, rfl, rfl, by simp, fun k hk hne => setRow_other W gn k _ (fun e => hne (by rw [e]))⟩⟩
  · simp; omega
  · simp
/-- a copy of the first k cells behind them. -/
theorem row_more {W : World} {gn n cn k : Nat} {s : ByteArray} (h : Row W gn n k s) (hk : k < n) {c1 c2 : Nat} :
    ∃ W1, (∀ ty, (Builtin.copy_ #[53, 53] ty #[.slice (some ⟨gn, k, none⟩) (n - k) c1, .slice (some ⟨gn, 0, none⟩) k c2]).run Try.prog W = .ok (goInt (min k (n - k) : Nat)) W1) ∧ Row W1 gn n (k + min k (n - k)) s ∧ W.grownBy W1 (some gn) := by
  obtain ⟨cur, hb, hs, hc⟩ := h
  have hsrc : ∀ j v, (List.replicate (min k (n - k)) (Value.string s))[j]? = some v → W.cell? ((⟨gn, 0, none⟩ : Addr).add j) = some v := by
    intro j v hj
    have hj1 : j < min k (n - k) := by
      have := (List.getElem?_eq_some_iff.1 hj).1
      simpa using this
    have hv : v = .string s := by
      rw [List.getElem?_replicate, if_pos hj1] at hj
      injection hj with hj
      exact hj.symm
    rw [add_at, Nat.zero_add, blk_cell hb j, hv, ← Array.getElem?_toList]
    have h2 : (cur.toList.take k)[j]? = some (.string s) := by rw [hc, List.getElem?_replicate, if_pos (by omega)]
    rwa [List.getElem?_take_of_lt (by omega)] at h2
  have hrun := fun ty => run_copy_row Try.prog W 53 53 ty 9 gn k (n - k) c1 ⟨gn, 0, none⟩ k c2 cur 9 (List.replicate (min k (n - k)) (Value.string s)) Try.underlying53 infoS1 hb (by simp) hsrc (by simp; omega) (by intro v hv; rw [List.eq_of_mem_replicate hv]; rfl)
  refine ⟨_, fun ty => (hrun ty).trans (by rw [List.length_replicate]), ⟨_, setRow_heap W gn cur _ 9 _ hb, ?_, ?_⟩, ⟨rfl, rfl, rfl, by simp, fun k hk hne => setRow_other W gn k _ (fun e => hne (by rw [e]))⟩⟩
  · simp; omega
  · rw [hc]
    have e : List.replicate k (Value.string s) ++ List.replicate (min k (n - k)) (Value.string s) = List.replicate (k + min k (n - k)) (Value.string s) := List.replicate_append_replicate
    simp only [List.length_replicate, e]
    rw [List.take_append_of_le_length (by simp)]
    exact List.take_of_length_le (by simp)

set_option maxHeartbeats 2000000 in
set_option maxRecDepth 100000 in
theorem repeat_calls (ad : Addr) (cx : Nat) (s : ByteArray) (n : Nat) (w : World) (hx : w.cell? ad = some (.string s)) (h1 : 1 ≤ n) (h2 : n ≤ 8192) :
    Calls Try.prog 24 #[.slice (some ad) 1 cx, .int .i64 n] w fun e w' => ∃ v, e = .returned v ∧ Kd.string.R 9 w' w.heap.size (fun _ => True) v (List.replicate n s) ∧ Below w.heap.size w w' := by
  obtain ⟨i0, hi, hz⟩ := Option.map_eq_some_iff.1 infoS
  simp only [Prod.mk.injEq] at hz
  obtain ⟨hz0, hz1, hz2⟩ := hz
  have hmk : ∀ W : World, (Instr.makeSlice 53 (.int .i64 n) (.int .i64 n)).run Try.prog W = .ok (.slice (some ⟨W.heap.size, 0, none⟩) n n) (W.alloc (.cells (madeCells #[.string ⟨#[]⟩] n) 9)) := fun W => by
    have := run_make W 53 9 i0 _ Try.underlying53 hi hz0 .i64 .i64 (n : Int) (n : Int) (by omega) (by omega) (by rw [hz2]; omega) (by omega)
    rw [this, hz1, Nat.mul_one, Int.toNat_natCast]
    rfl
  clear hi hz0 hz1 hz2
  have hm := mul_one_ n (by omega) (by omega)
  have hwn : IntKind.u64.wrap (n : Int) = n := by rw [show IntKind.u64.wrap (n : Int) = (n : Int) % 18446744073709551616 by simp [IntKind.wrap, IntKind.bits, IntKind.signed]]; omega
  have HM := Aside0.mk hm
  have H1 := Aside0.mk h1
  have HX := Aside0.mk hx
  clear hm hx h1
  go_enter Try.func24, Try.ntmps24
  go_wp2_with (first | (go_at_call 38; refine (Fn.bits_Mul.calls 1 n 0 n _ HM.out).mono ?_; rintro e w' ⟨rfl, ⟨nd, rfl⟩⟩; obtain ⟨W1, hrun, hR, hG⟩ := row_one (W := (w.drewN nd).alloc (.cells (madeCells #[.string ⟨#[]⟩] n) 9)) (gn := w.heap.size) (n := n) (cn := n) (cx := cx) ⟨_, heap_alloc_new _ _, size_madeCells _ _, rfl⟩ H1.out (Lib.cell?_alloc_some _ HX.out); have HR := Aside0.mk hR; have HB := Aside0.mk (((Below.refl w.heap.size w).alloc (Nat.le_refl _) (.cells (madeCells #[.string ⟨#[]⟩] n) 9)).grown (w' := W1) ⟨hG.os, hG.tape, hG.output, hG.size, hG.block⟩ (by simp) (by intro k hk; injection hk with hk; omega)); clear hR hG))
  go_loopw [8] (fun v8 wr => ∃ k : Nat, v8 = .int .i64 (k : Int) ∧ 1 ≤ k ∧ k ≤ n ∧ Aside0 (Row wr w.heap.size n k s) ∧ Aside0 (Below w.heap.size w wr)) (fun v8 _ => n - (intOf v8).toNat)
  case atStart => exact ⟨1, rfl, Nat.le_refl _, H1.out, HR, HB⟩
  case round =>
    clear HR HB
    obtain ⟨k, rfl, hk1, hkn, HR, HB⟩ := hrel
    by_cases hlt : k < n
    · have HLT := Aside0.mk hlt
      obtain ⟨W2, hrun, hR2, hG2⟩ := row_more (cn := n) (c1 := n - k) (c2 := n) HR.out.drew hlt
      have hnk : ¬ n = k := by omega
      have HR2 := Aside0.mk hR2
      have HB2 := Aside0.mk (HB.out.drew.grown hG2 HB.out.size (by intro k hk; injection hk with hk; omega))
      clear hR2 hG2
      go_wp2
      go_region
      have hlt := HLT.out
      go_wp2
      go_roundw
      case rel => exact ⟨k + min k (n - k), by go_num, by omega, by omega, HR2, HB2⟩
      case measure => simp [intOf]; omega
    · obtain rfl : k = n := by omega
      go_wp2
      go_ret
      obtain ⟨cur, hb, hs, ht⟩ := HR.out
      refine ⟨_, rfl, ?_, HB.out⟩
      refine Kd.R_of_own (enc := Value.string) (h1 := fun _ => rfl) ?_ (fun _ _ => trivial)
      rw [List.length_replicate]
      exact ⟨by simp [encs], .inr ⟨w.heap.size, k, cur, rfl, Nat.le_refl _, hb, Nat.le_refl _, by unfold maxLen; omega, by rw [hs, Nat.mul_one], by rw [Nat.mul_one, ht]; simp [encs]⟩⟩
end Go.Proofs.Ytakpedenoocmpaa.Dv
