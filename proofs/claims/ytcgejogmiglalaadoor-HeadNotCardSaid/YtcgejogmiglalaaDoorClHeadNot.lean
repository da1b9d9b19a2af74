/- HeadNot: its row over the program, and the tied card: for every input the law returns true. Conditions: those of the row alone (the variables of the library that it lists hold what their initialisers lay). -/
import Derived.Test.YtcgejogmiglalaaDoorClHeadNot3
import Derived.Test.YtcgejogmiglalaaDoorClHeadNot2
import Derived.Test.YtcgejogmiglalaaDoorCards
import Derived.Test.YtcgejogmiglalaaDoorTie
import Derived.SevenTiedAt
namespace Go.Proofs.YtcgejogmiglalaaDoor.headNot
open Go.Shelf Go.ChangeShapes Go.WideShapes Go.ChangeAt Go.RowKit Go.Lib Go.Deep Go.Proofs.YtcgejogmiglalaaDoor.RowB0
open Go.ChangeMaps (open_string shut_string)
set_option maxRecDepth 100000 in
theorem witness_row (os : Os) {H : Type} (enc : TypeId × Value → H) :
    (OpenSpec.ofChange Rows.headNotSpec).preRow enc Tryd.prog Tryd.f8 Rows.headNotRow.domain false Rows.headNotRow.laid ((laidWorld os).forCall (fun _ _ => 0) ⟨#[], #[.agg #[.int .u64 0, .int .i64 0, .int .i64 0, .slice none 0 0], .int .i64 0, .int .u8 0], []⟩).memory #[.agg #[.int .u64 0, .int .i64 0, .int .i64 0, .slice none 0 0], .int .i64 0, .int .u8 0] := by
  have hw : (DataW.whole enc Tryd.prog ((laidWorld os).forCall (fun _ _ => 0) ⟨#[], #[.agg #[.int .u64 0, .int .i64 0, .int .i64 0, .slice none 0 0], .int .i64 0, .int .u8 0], []⟩).memory Tryd.f8.params.toList (OpenSpec.ofChange Rows.headNotSpec).vars false (#[.agg #[.int .u64 0, .int .i64 0, .int .i64 0, .slice none 0 0], .int .i64 0, .int .u8 0] : Array Value).toList 8).map (fun x => (x.1, x.2.1)) = some ([.agg [.lit (.int .u64 0), .lit (.int .i64 0), .lit (.int .i64 0), .nil], .lit (.int .i64 0), .lit (.int .u8 0)], []) := by kernel_rfl
  obtain ⟨⟨x1, x2, x3⟩, hx, hx1⟩ := Option.map_eq_some_iff.1 hw
  simp only [Prod.mk.injEq] at hx1
  obtain ⟨rfl, rfl⟩ := hx1
  exact OpenSpec.preRow_of_cond 8 hx (by kernel_rfl) (fun k hk => by cases hk) (by kernel_rfl) (laid_met os _)
set_option maxRecDepth 100000 in
set_option maxHeartbeats 2000000 in
theorem lifted (os : Os) (started : os.Started) (H : Type) (enc : TypeId × Value → H) (F0 : Stop.Interp) :
    ReturnsInHanded {} Tryd.checked os 8 .any ((OpenSpec.ofChange Rows.headNotSpec).preRow enc Tryd.prog Tryd.f8 Rows.headNotRow.domain false Rows.headNotRow.laid) (((OpenSpec.ofChange Rows.headNotSpec).at F0).post enc Tryd.prog Tryd.f8 false true false false) := by
  refine returnsInHanded_of_row (C := Tryd.checked) (s := OpenSpec.ofChange Rows.headNotSpec) own started (by kernel_rfl) Tryd.func8
    (witness_row_atRef (enc := enc) (C := Tryd.checked) false (laidWorld os) #[.agg #[.int .u64 0, .int .i64 0, .int .i64 0, .slice none 0 0], .int .i64 0, .int .u8 0] rfl (by kernel_rfl) (by kernel_rfl) (by kernel_rfl) (witness_row os enc)) ?_
  intro W base args ds gs before hval0 hW _ hsz0 _ hL hS _
  have hval : ∀ (j : Nat) t v, Tryd.f8.params[j]? = some t → args[j]? = some v → Value.okWide Tryd.prog W .any base t v := hval0
  have hW' := hW
  obtain ⟨p, q, hA0, hV, rfl, _, _⟩ := hW
  have hA : DataW.TrodAll enc Tryd.prog W 0 (fun _ => true) true Tryd.f8.params.toList args.toList ds p := hA0
  rw [Tryd.params8] at hA hval
  obtain ⟨v0, vs0, d0, ds0, p0, q0, hargs, rfl, rfl, h0, r0⟩ := trodAll_cons hA
  obtain ⟨v1, vs1, d1, ds1, p1, q1, rfl, rfl, rfl, h1, r1⟩ := trodAll_cons r0
  obtain ⟨v2, vs2, d2, ds2, p2, q2, rfl, rfl, rfl, h2, r2⟩ := trodAll_cons r1
  obtain ⟨rfl, rfl, rfl⟩ := trodAll_nil r2
  obtain rfl : args = #[v0, v1, v2] := by cases args; simp_all
  obtain ⟨rfl, rfl⟩ := trodVars_none hV
  clear hS
  have k0 := h0
  have lt0 : ∀ x ∈ p0, x.block < W.heap.size := by obtain ⟨m, hm⟩ := k0; exact DataW.trod_lt m _ _ _ hm
  obtain ⟨a0_0, a0_1, a0_2, A0, l0, n0, e0, b0_0, b0_1, b0_2, hr0, hc0⟩ := RowHead.opened (hval 0 25 v0 rfl rfl) h0
  subst e0
  have k1 := h1
  have lt1 : ∀ x ∈ p1, x.block < W.heap.size := by obtain ⟨m, hm⟩ := k1; exact DataW.trod_lt m _ _ _ hm
  obtain ⟨a1, e1, w1⟩ := RowN.open_num Tryd.underlying3 (hval 1 3 v1 rfl rfl) h1
  subst e1
  have k2 := h2
  have lt2 : ∀ x ∈ p2, x.block < W.heap.size := by obtain ⟨m, hm⟩ := k2; exact DataW.trod_lt m _ _ _ hm
  obtain ⟨a2, e2, w2⟩ := RowN.open_num Tryd.underlying5 (hval 2 5 v2 rfl rfl) h2
  subst e2
  clear hA0 hval0 hsz0
  obtain ⟨k, hk⟩ := Pu.HeadNot a0_0 a0_1 a0_2 l0 a1 a2 b0_0 b0_1 b0_2 (RowN.u8_b w2)
  refine (Fn.l6_HeadNot.calls k a0_0 a0_1 a0_2 A0 n0 l0 a1 a2 true W hr0 hc0 hk ).mono ?_
  rintro e W' ⟨rfl, bel⟩
  exact ⟨_, rfl, _, _, _, [], _, [], hW', trodAll_mk1 (shut_bool Tryd.underlying4 _), (trodAll_cons_mk (Below.trod laidOut (by kernel_rfl) (of_decide_eq_true (by kernel_rfl)) k0 bel lt0) (trodAll_cons_mk (Below.trod laidOut (by kernel_rfl) (of_decide_eq_true (by kernel_rfl)) k1 bel lt1) (trodAll_cons_mk (Below.trod laidOut (by kernel_rfl) (of_decide_eq_true (by kernel_rfl)) k2 bel lt2) trodAll_mk0))), rfl, bel.frame _, fun h => by cases h⟩
theorem said : Rows.HeadNotSaid :=
  OpenClaim.holds_of_cond 8 Tryd.f8 rfl rfl rfl rfl rfl rfl rfl ⟨rfl, rfl, rfl, rfl, rfl⟩ rfl rfl rfl rfl rfl (by kernel_rfl) Tryd.func8 (by kernel_rfl)
    (of_decide_eq_true (by kernel_rfl)) (by unfold Func.isWrapper; first | (rw [if_pos (by decide +kernel)]; kernel_rfl) | (rw [if_neg (by decide +kernel)]; exact ⟨rfl, rfl⟩))
    (fun os started H enc _ F0 => by rw [OpenClaim.pre_eq_preRow]; exact lifted os started H enc F0)
/-- No parameter wants a stand-in; the program's own looks are off: what the card asks. -/
theorem plain (f : FuncId) (fn : Func) (hf : Tryd.pinned.checked.prog.funcNamed "rootcellar/rootcellarlaw6.HeadNot" = some f) (hfn : Tryd.pinned.checked.prog.funcs[f]? = some fn) :
    false = Tryd.pinned.checked.prog.looks [] ∧ ∀ (j : Nat) t, fn.params[j]? = some t → Tryd.pinned.checked.prog.wantsStandIn t = false := by
  obtain rfl : f = 8 := Option.some.inj ((show Tryd.prog.funcNamed "rootcellar/rootcellarlaw6.HeadNot" = some 8 by kernel_rfl).symm.trans hf) |>.symm
  obtain rfl : fn = Tryd.f8 := (Option.some.inj (Tryd.func8.symm.trans hfn)).symm
  refine ⟨by kernel_rfl, fun j t ht => ?_⟩
  rw [Tryd.params8] at ht
  have hj : t = 25 ∨ t = 3 ∨ t = 5 := by
    match j, ht with
    | 0, ht => have e := Option.some.inj ht; subst e; simp
    | 1, ht => have e := Option.some.inj ht; subst e; simp
    | 2, ht => have e := Option.some.inj ht; subst e; simp
    | j + 3, ht => simp at ht
  rcases hj with rfl | rfl | rfl
  · exact (show Tryd.prog.wantsStandIn 25 = false by kernel_rfl)
  · exact (show Tryd.prog.wantsStandIn 3 = false by kernel_rfl)
  · exact (show Tryd.prog.wantsStandIn 5 = false by kernel_rfl)
/-- The tied card. -/
theorem card : Rows.HeadNotCardSaid :=
  Claim7.holds_tied_plain_at .later [] _ _ _ _ said (fun _ h => by cases h) (by kernel_rfl) (fun _ h => by cases h) headNot_row_tie rfl ⟨rfl, rfl⟩ (by kernel_rfl) rfl plain (by kernel_rfl)
end Go.Proofs.YtcgejogmiglalaaDoor.headNot
