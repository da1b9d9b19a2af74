import Derived.Test.YtakpedenoocmpaaDvOps5
import Derived.Test.YtakpedenoocmpaaFnBitsMul
import Derived.Lib.SliceRun
import Derived.Lib.Walk
/-! slices.Clone of strings and of pending writes; slices.Repeat of one string. -/
namespace Go.Proofs.Ytakpedenoocmpaa.Dv
open Go.RowKit Go.Proofs.YtakpedenoocmpaaW.PrintWords Go.Proofs.YtakpedenoocmpaaW.PrintLast Go.Proofs.YtakpedenoocmpaaW.PrintMore
attribute [local go_sem] max2_int min2_int max_two min_two max_three min_three max_four min_four
set_option linter.unusedVariables false
set_option linter.unusedSimpArgs false

/-- the cells of a row. -/
def cellsW (x : Int × ByteArray) : List Value := [.int .i64 x.1, .string x.2]
theorem rowW_len (l : List (Int × ByteArray)) : (l.flatMap cellsW).length = l.length * 2 := by
  induction l with
  | nil => rfl
  | cons x l ih => rw [List.flatMap_cons, List.length_append, ih, List.length_cons]; show 2 + _ = _; omega
theorem rowW_at (l : List (Int × ByteArray)) : ∀ m, (l.flatMap cellsW)[m]? = (l[m / 2]?).bind fun x => (cellsW x)[m % 2]? := by
  induction l with
  | nil => intro m; simp
  | cons x l ih =>
    intro m
    rw [List.flatMap_cons]
    rcases Nat.lt_or_ge m 2 with h | h
    · rw [List.getElem?_append_left (by exact h), Nat.div_eq_of_lt h, Nat.mod_eq_of_lt h]; rfl
    · rw [List.getElem?_append_right (by exact h)]
      show (l.flatMap cellsW)[m - 2]? = _
      rw [ih, show m / 2 = (m - 2) / 2 + 1 by omega, List.getElem?_cons_succ, show m % 2 = (m - 2) % 2 by omega]
theorem rowW_take (l : List (Int × ByteArray)) (j : Nat) (p : Int × ByteArray) (h : l[j]? = some p) : ((l.flatMap cellsW).drop (j * 2)).take 2 = cellsW p := by
  apply List.ext_getElem?
  intro i
  rcases Nat.lt_or_ge i 2 with hi | hi
  · rw [List.getElem?_take_of_lt hi, List.getElem?_drop, rowW_at, show (j * 2 + i) / 2 = j by omega, show (j * 2 + i) % 2 = i by omega, h]; rfl
  · rw [List.getElem?_eq_none (by rw [List.length_take]; omega), List.getElem?_eq_none (by exact hi)]
theorem rowW_one (l : List (Int × ByteArray)) : ∀ u ∈ l.flatMap cellsW, u.oneCell' = true := by
  intro u hu
  obtain ⟨x, _, hx⟩ := List.mem_flatMap.1 hu
  simp only [cellsW, List.mem_cons, List.not_mem_nil, or_false] at hx
  rcases hx with rfl | rfl <;> rfl
set_option maxHeartbeats 4000000 in
set_option maxRecDepth 100000 in
theorem cloneW_calls (A0 : Option Addr) (c0 : Nat) (l0 : List (Int × ByteArray)) (w : World) (hr0 : Kd.C kW w A0 l0.length l0) (hn : l0.length ≤ 1000000) :
    Calls Try.prog 30 #[.slice A0 l0.length c0] w fun e w' => ∃ v0_ : Value, e = .returned v0_ ∧ Kd.R kW 62 w' w.heap.size (fun _ => True) v0_ l0 ∧ Below w.heap.size w w' := by
  have q22 : ∀ (w : World) (a : Option Addr) (n c n' c' : Nat), (binOp .eql 57 (.slice a n c) (.slice none n' c')).run Try.prog w = .ok (.bool a.isNone) w := fun w a n c n' c' => Lib.run_eql_slice_nil w _ _ a n c n' c' Try.underlying57
  cases A0 with
  | none =>
    have hl : l0 = [] := by
      rcases Nat.eq_zero_or_pos l0.length with h0 | h0
      · exact List.eq_nil_of_length_eq_zero h0
      · obtain ⟨ad, e, _⟩ := hr0.2.2 h0
        cases e
    subst hl
    clear hr0
    go_enter Try.func30, Try.ntmps30
    go_wp2
    go_ret
    exact ⟨_, rfl, Kd.R_nil _ _ _ _ _, Below.refl _ _⟩
  | some ad =>
    have hcell : Aside0 (∀ j u, (l0.flatMap cellsW)[j]? = some u → w.cell? (ad.add j) = some u) := ⟨by
      intro m u hm
      rw [rowW_at] at hm
      obtain ⟨p, hp, hu⟩ := Option.bind_eq_some_iff.1 hm
      have hpos : 0 < l0.length := by
        rcases Nat.eq_zero_or_pos l0.length with h0 | h0
        · rw [List.eq_nil_of_length_eq_zero h0] at hp; simp at hp
        · exact h0
      obtain ⟨ad', e, hc⟩ := hr0.2.2 hpos
      cases e
      obtain ⟨c, _, hK, hcell⟩ := hc _ p hp
      obtain ⟨_, _, rfl, rfl, rfl⟩ := hK
      have h2 := hcell (m % 2) u hu
      rw [show kW.sz = 2 from rfl, show m / 2 * 2 + m % 2 = m by omega] at h2
      exact h2⟩
    clear hr0
    obtain ⟨i0, hi, hz⟩ := Option.map_eq_some_iff.1 infoW
    simp only [Prod.mk.injEq] at hz
    obtain ⟨hz0, hz1, hz2⟩ := hz
    go_enter Try.func30, Try.ntmps30
    go_wp2_with (at_builtin; refine wpList_append_own _ rfl _ _ 57 rfl w.heap.size 62 i0 _ 2 24 Try.underlying57 hi hz0 hz1 hz2 rfl (by omega) _ _ _ rfl (World.ownsRow_made w #[] 0 (Nat.le_refl _) (Nat.zero_le _) (by simp)) ad l0.length c0 (l0.flatMap cellsW) rfl ?qc1 ?qc2 ?qc3 ?qc4 ?qc5 ?qc6 ?_)
    case qc1 => exact rowW_len l0
    case qc2 =>
      intro j u hj
      exact Lib.cell?_alloc_some _ (hcell.out j u hj)
    case qc3 => exact rowW_one l0
    case qc4 => rw [Nat.zero_add]; unfold maxLen; omega
    case qc5 => rw [Nat.zero_add]; omega
    case qc6 => simp
    intro v' w1 hown hgrow hnil
    go_wp2
    go_ret
    refine ⟨v', rfl, ⟨fun _ _ => trivial, l0.flatMap cellsW, (show w1.ownsRow w.heap.size 62 2 v' l0.length (l0.flatMap cellsW) from by simpa using hown), ⟨rowW_len l0, fun j p hj => ?_⟩⟩, ?_⟩
    · rw [show kW.sz = 2 from rfl, rowW_take l0 j p hj]
      exact kW_mk _ _ _ p
    · exact ((Below.refl _ w).alloc (Nat.le_refl _) _).grown hgrow (by simp) (by intro k hk; simp [Value.ownBlock] at hk; omega)

set_option maxHeartbeats 4000000 in
set_option maxRecDepth 100000 in
theorem cloneS_calls (ad : Addr) (c0 : Nat) (l0 : List ByteArray) (w : World) (hr0 : Kd.C Kd.string w (some ad) l0.length l0) (hn : l0.length ≤ 1000000) :
    Calls Try.prog 26 #[.slice (some ad) l0.length c0] w fun e w' => ∃ v0_ : Value, e = .returned v0_ ∧ Kd.R Kd.string 9 w' w.heap.size (fun _ => True) v0_ l0 ∧ Below w.heap.size w w' := by
  have q22 : ∀ (w : World) (a : Option Addr) (n c n' c' : Nat), (binOp .eql 53 (.slice a n c) (.slice none n' c')).run Try.prog w = .ok (.bool a.isNone) w := fun w a n c n' c' => Lib.run_eql_slice_nil w _ _ a n c n' c' Try.underlying53
  have hcell : Aside0 (∀ j u, (l0.map Value.string)[j]? = some u → w.cell? (ad.add j) = some u) := ⟨by
    intro m u hm
    rw [List.getElem?_map] at hm
    obtain ⟨p, hp, hu⟩ := Option.map_eq_some_iff.1 hm
    have hml : m < l0.length := (List.getElem?_eq_some_iff.1 hp).1
    obtain ⟨ad', e, hc⟩ := Kd.at_string hr0 (m : Int) (by omega) (by omega)
    cases e
    rw [Int.toNat_natCast] at hc
    rw [hc, ← hu]
    simp [rdOf, List.getD, hp]⟩
  clear hr0
  obtain ⟨i0, hi, hz⟩ := Option.map_eq_some_iff.1 infoS
  simp only [Prod.mk.injEq] at hz
  obtain ⟨hz0, hz1, hz2⟩ := hz
  go_enter Try.func26, Try.ntmps26
  go_wp2_with (at_builtin; refine wpList_append_own _ rfl _ _ 53 rfl w.heap.size 9 i0 _ 1 16 Try.underlying53 hi hz0 hz1 hz2 rfl (by omega) _ _ _ rfl (World.ownsRow_made w #[] 0 (Nat.le_refl _) (Nat.zero_le _) (by simp)) ad l0.length c0 (l0.map Value.string) rfl ?qc1 ?qc2 ?qc3 ?qc4 ?qc5 ?qc6 ?_)
  case qc1 => simp
  case qc2 =>
    intro j u hj
    exact Lib.cell?_alloc_some _ (hcell.out j u hj)
  case qc3 => intro u hu; obtain ⟨x, _, rfl⟩ := List.mem_map.1 hu; rfl
  case qc4 => rw [Nat.zero_add]; unfold maxLen; omega
  case qc5 => rw [Nat.zero_add]; omega
  case qc6 => simp
  intro v' w1 hown hgrow hnil
  go_wp2
  go_ret
  refine ⟨v', rfl, Kd.R_of_own (enc := Value.string) (h1 := fun _ => rfl) (show w1.ownsRow w.heap.size 9 1 v' l0.length (encs Value.string l0) from by simpa [encs] using hown) (fun _ _ => trivial), ?_⟩
  exact ((Below.refl _ w).alloc (Nat.le_refl _) _).grown hgrow (by simp) (by intro k hk; simp [Value.ownBlock] at hk; omega)

theorem mul_one_ (n : Int) (h0 : 0 ≤ n) (h1 : n < 4294967296) : Fn.bits_Mul.f 1 n = some (0, n) := by
  have hw : ∀ x : Int, IntKind.u64.wrap x = x % 18446744073709551616 := fun x => by simp [IntKind.wrap, IntKind.bits, IntKind.signed]
  have hb : ∀ x : Int, 0 ≤ x → x < 4294967296 → Go.bits .and .u64 x 4294967295 = x := fun x hx0 hx1 => by
    have := bits_mask .u64 64 (by decide) (fun n h0 h1 => by rw [hw]; omega) 32 (by decide) x hx0 (by omega)
    rw [show (4294967295 : Int) = 2 ^ 32 - 1 from rfl, this]
    omega
  unfold Fn.bits_Mul.f Fn.bits_Mul64.f
  rw [hb n h0 h1, hb 1 (by decide) (by decide)]
  have e1 : (1 : Int) / 4294967296 = 0 := by decide
  have e2 : n / 4294967296 = 0 := by omega
  have e3 : n % 18446744073709551616 = n := by omega
  simp [hw, e1, e2, e3, hb]
end Go.Proofs.Ytakpedenoocmpaa.Dv
