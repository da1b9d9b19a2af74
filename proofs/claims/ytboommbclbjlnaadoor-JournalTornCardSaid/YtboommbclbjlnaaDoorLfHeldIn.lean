/- A region that draws, in a round: by the plain walk that takes loads first. -/
import Derived.OrdersHeld
import Derived.Deep.RegionHeld
import Derived.OrdersIn
import Derived.TacticsIn
namespace Go.Proofs.YtboommbclbjlnaaDoor.Lf
open Go
theorem opIn_of_op (l n : Nat) {P : Program} {o : Oper} {a : Act} {w : World} {K : Act → World → Prop} {Q : Exit → Act → World → Prop} (hd : ∀ c, o.op ≠ .defer c) (h : o.wp P a w K Q) : o.wpIn (Fence.wide.inRound l) n P a w K Q := by
  refine ⟨fun _ _ => trivial, ?_⟩
  rw [show (Fence.wide.inRound l).round = some l from rfl, Oper.semAt_some l _ o hd]
  unfold Oper.wp at h
  have hdp : (Fence.wide.inRound l).depth.isSome = true → 1 ≤ n := fun h => by simp [Fence.wide, Fence.inRound] at h
  generalize (execOp a.eval o).run P w = r at h ⊢
  cases r with
  | ok nx w' =>
    cases nx with
    | value v => exact h
    | skip => exact h
    | defer d => exact h
    | enter f args => exact ⟨hdp, callsIn_wide.2 h⟩
    | row row args => exact ⟨hdp, fun c cs _ => let ⟨v, w'', r, s⟩ := h c cs; ⟨v, w'', r, stepsIn_wide.2 s⟩⟩
    | _ => exact h.elim
  | halt x w' => cases x <;> first | exact h | exact h.elim
theorem anyIn_of_any (l n : Nat) {P : Program} {ops : Array Oper} {md : Region.Mode} {Q : Exit → Act → World → Prop} (hd : ∀ (i : Nat) (o : Oper), ops[i]? = some o → ∀ c, o.op ≠ .defer c) (hl : ¬ LetsOut Q) :
    ∀ (fuel : Nat) (listed : Array Bool) (a : Act) (w : World), wpAny P md ops Q fuel listed a w → wpAnyIn (Fence.wide.inRound l) n P md ops Q fuel listed a w
  | 0, _, _, _, h => h
  | fuel + 1, listed, a, w, h => by
    refine ⟨h.1, fun i hi => ?_⟩
    have h2 := h.2 i hi
    unfold wpOp at h2
    unfold wpOpIn
    cases ho : ops[i]? with
    | none => rw [ho] at h2; exact anyIn_of_any l n hd hl fuel _ _ _ h2
    | some o =>
      rw [ho] at h2
      simp only at h2 ⊢
      split
      · rename_i hw
        rw [if_pos hw] at h2
        rcases h2 with h2 | ⟨_, h2⟩
        · exact opIn_of_op l n (hd i o ho) (Oper.wp_mono (fun a w h => anyIn_of_any l n hd hl fuel _ a w h) h2)
        · exact absurd h2 hl
      · rename_i hw
        rw [if_neg hw] at h2
        exact ⟨fun _ _ => trivial, anyIn_of_any l n hd hl fuel _ _ _ h2⟩
def noDefer (o : Oper) : Bool := match o.op with | .defer _ => false | _ => true
theorem noDefer_spec {ops : Array Oper} (h : ops.toList.all noDefer = true) : ∀ (i : Nat) (o : Oper), ops[i]? = some o → ∀ c, o.op ≠ .defer c := by
  intro i o ho c e
  have hm : o ∈ ops.toList := by rw [Array.mem_toList_iff]; exact Array.mem_of_getElem? ho
  have := List.all_eq_true.1 h o hm
  unfold noDefer at this
  rw [e] at this
  cases this
/-- The end that a region comes to: no panic. -/
def Ends (E : Act → World → Prop) : Exit → Act → World → Prop
  | .normal, a, w => E a w
  | _, _, _ => False
theorem wpIn_round_held (S : World → Prop) (l n : Nat) {P : Program} {id : Nat} {ops : Array Oper} {Q : Exit → Act → World → Prop} {a : Act} {w : World} (hm : P.follows .mixedOrders = true) (hd : ops.toList.all noDefer = true)
    (hS : S w.drew) (h : S w.drew → wpAnyH P .any ops (Ends fun a w => Q .normal a w) S ops.size (Array.replicate ops.size false) a w.drew) : (Code.region id ops true).wpIn (Fence.wide.inRound l) n P Q a w :=
  wpIn_mono (Q := Ends fun a w => Q .normal a w) (wpIn_region_any hm (anyIn_of_any l n (noDefer_spec hd) (fun ⟨_, _, h⟩ => h) _ _ _ _ (wpAny_of_held _ _ _ _ (h hS)))) (fun e a w h => by cases e <;> first | exact h | exact h.elim)
/-- One operation taken first. -/
theorem take1 (i : Nat) (d : Option Tmp) (v : Value) {P : Program} {ops : Array Oper} {S : World → Prop} {E : Act → World → Prop} {oi : Oper} {fuel : Nat} {listed : Array Bool} {a : Act} {w : World} (hi : ops[i]? = some oi)
    (hb : (Region.noSelect ops && Region.free .any ops listed i && (Region.ready .any ops listed).contains i) = true) (hw : Region.wanted oi (yielded ops a.tmps) = true)
    (hdst : oi.dst = d) (hy : ∀ w, S w → (execOp a.eval oi).run P w = .ok (.value v) w) (hS : S w) (h : wpAnyH P .any ops (Ends E) S fuel (listed.setIfInBounds i true) (a.put d v) w) : wpAnyH P .any ops (Ends E) S (fuel + 1) listed a w := by
  subst hdst
  simp only [Bool.and_eq_true] at hb
  exact wpAnyH_take hi hb.1.1 hb.1.2 hb.2 (fun _ _ _ h => h) (.inl ⟨hw, hy⟩) hS h
/-- One call, met by its contract. -/
theorem call1 (i : Nat) (d : Option Tmp) (f : FuncId) (args : Array Value) {P : Program} {ops : Array Oper} {S : World → Prop} {E : Act → World → Prop} {oi : Oper} {fuel : Nat} {listed : Array Bool} {a : Act} {w : World} (hi : ops[i]? = some oi)
    (hr : Region.ready .any ops listed = [i]) (hw : Region.wanted oi (yielded ops a.tmps) = true) (hdst : oi.dst = d) (he : (execOp a.eval oi).run P w = .ok (.enter f args) w)
    (h : Calls P f args w fun e w' => ∃ v, e = .returned v ∧ S w' ∧ (S w' → wpAnyH P .any ops (Ends E) S fuel (listed.setIfInBounds i true) (a.put d v) w')) : wpAnyH P .any ops (Ends E) S (fuel + 1) listed a w := by
  subst hdst
  refine wpAnyH_all hr (by simp) (fun j hj => ?_)
  obtain rfl : j = i := by simpa using hj
  unfold wpOp
  rw [hi]
  simp only [hw, if_true]
  refine .inl ?_
  unfold Oper.wp
  rw [he]
  refine Calls.mono h ?_
  rintro e w' ⟨v, rfl, hS, hh⟩
  exact ⟨hS, hh hS⟩
end Go.Proofs.YtboommbclbjlnaaDoor.Lf
