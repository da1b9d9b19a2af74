/- A range over a function whose rounds all go on: the statement out of its iterator's contract, a round out of its body's walk. -/
import Derived.RangeFuncNested
import Derived.RangeFuncCalls
import Derived.WalkKit
import Derived.Test.YtboommbclbjlnaaDoorLfHeldIn
namespace Go.Proofs.YtboommbclbjlnaaDoor.Lf
open Go.RowKit
/-- The loop's record. -/
def rngRec (fn : FuncId) (tm : Array Value) (ps : Array Tmp) (as_ bd : Code) (D : Nat) (st : LoopState) : Loop := { state := st, pending := none, fn := fn, tmps := tm, params := ps, assign := as_, body := bd, defers := D }
/-- The loop's two blocks: the record; the block for the rounds' deferred calls. -/
structure RngAt (fn : FuncId) (tm : Array Value) (ps : Array Tmp) (as_ bd : Code) (L D : Nat) (st : LoopState) (W : World) : Prop where
  loop : W.heap[L]? = some (.loop (rngRec fn tm ps as_ bd D st))
  defs : W.heap[D]? = some (.deferred (some []))
theorem rng_others {fn : FuncId} {tm : Array Value} {ps : Array Tmp} {as_ bd : Code} {L D : Nat} {st : LoopState} {W W' : World} (h : RngAt fn tm ps as_ bd L D st W) (hk : KeepsOthers W W') : RngAt fn tm ps as_ bd L D st W' :=
  ⟨hk.same _ _ h.loop rfl, hk.same _ _ h.defs rfl⟩
theorem rng_stmt {P : Program} {n : Nat} {g : Operand} {ps : Array Tmp} {as_ bd : Code} {Q : Exit → Act → World → Prop} {a : Act} {w : World} {gf : Nat} {lb : Array Value}
    (hg : a.eval g = .func (.func gf) #[] lb) (eg : ∀ args w, (callFunc gf args).run P w = .ok (.enter gf args) w)
    (h : ∀ fn W1, Below w.heap.size w W1 → RngAt fn a.tmps ps as_ bd (w.heap.size + 1) w.heap.size .ready W1 →
      CallsIn Fence.wide n P gf (#[.func (.yield (w.heap.size + 1)) #[] #[]] ++ lb) W1 fun e W2 => (∃ v, e = .returned v) ∧ RngAt fn a.tmps ps as_ bd (w.heap.size + 1) w.heap.size .ready W2 ∧
        ∀ o : Obj, Q .normal { a with defers := { target := .collected w.heap.size, args := #[] } :: a.defers } (W2.putObj (w.heap.size + 1) o)) :
    (Code.rangeFunc g ps as_ bd).wpIn Fence.wide (n + 1) P Q a w := by
  refine wpIn_rangeFunc ?_
  intro fn _
  have hL : ((w.alloc (.deferred (some []))).alloc (.loop (rngRec fn a.tmps ps as_ bd w.heap.size .ready))).heap[w.heap.size + 1]? = some (.loop (rngRec fn a.tmps ps as_ bd w.heap.size .ready)) := by
    have := World.alloc_heap_new (w.alloc (.deferred (some []))) (.loop (rngRec fn a.tmps ps as_ bd w.heap.size .ready))
    rwa [World.size_alloc] at this
  have hD : ((w.alloc (.deferred (some []))).alloc (.loop (rngRec fn a.tmps ps as_ bd w.heap.size .ready))).heap[w.heap.size]? = some (.deferred (some [])) :=
    (Below.heap_alloc _ _ _ (by simp)).trans (World.alloc_heap_new w _)
  have hb : Below w.heap.size w ((w.alloc (.deferred (some []))).alloc (.loop (rngRec fn a.tmps ps as_ bd w.heap.size .ready))) := ((Below.refl _ w).alloc (Nat.le_refl _) _).alloc (by simp) _
  obtain ⟨W1, hW1⟩ : ∃ W1, (w.alloc (.deferred (some []))).alloc (.loop (rngRec fn a.tmps ps as_ bd w.heap.size .ready)) = W1 := ⟨_, rfl⟩
  rw [hW1] at hL hD hb
  refine ⟨w.heap.size + 1, [{ target := .collected w.heap.size, args := #[] }], W1, { target := .fn (.func gf) lb, args := #[.func (.yield (w.heap.size + 1)) #[] #[]] }, W1, gf,
    #[.func (.yield (w.heap.size + 1)) #[] #[]] ++ lb, W1, by rw [← hW1]; exact run_enterLoop_outer _ _ _ _ _, ?_, fun _ _ => trivial, ?_, fun hd => absurd hd (by simp [Fence.wide]), ?_⟩
  · simp only [resolve, hg]
    simp [go_sem]
  · simp [invoke, go_sem, eg]
  · refine (h fn _ hb ⟨hL, hD⟩).mono ?_
    rintro e W2 ⟨⟨v, rfl⟩, ⟨hl, _⟩, hq⟩
    have hend := run_endLoop (P := P) hl (by simp [rngRec])
    exact ⟨none, _, hend, hq _⟩
theorem rng_round {P : Program} {n : Nat} {fn : FuncId} {tm : Array Value} {ps : Array Tmp} {as_ bd : Code} {L D : Nat} {W : World} {args : Array Value} {R : Ending → World → Prop}
    (hR : RngAt fn tm ps as_ bd L D .ready W) (hne : D ≠ L) (hs : args.size = ps.size)
    (h : ∀ K : Act → World → Prop, (∀ a1 W1, RngAt fn tm ps as_ bd L D .ready W1 →
        (∀ (o : Obj) (Q : Exit → Act → World → Prop), RngAt fn tm ps as_ bd L D .busy (W1.putObj L o) →
          (∀ a3 W3, RngAt fn tm ps as_ bd L D .busy W3 → (∀ o : Obj, RngAt fn tm ps as_ bd L D .ready (W3.putObj L o) → R (.returned (.bool true)) (W3.putObj L o)) → Q .normal a3 W3) →
          bd.wpIn (Fence.wide.inRound L) n P Q a1 (W1.putObj L o)) → K a1 W1) →
      as_.wpIn (Fence.wide.inRound L) n P (Exit.then K (fun _ _ _ => False)) { tmps := (ps.zip args).foldl (fun t (p, v) => t.setIfInBounds p v) tm, defers := [] } W) :
    YieldAt Fence.wide n P L args W R := by
  refine ⟨fn, _, as_, bd, run_yield (P := P) (args := args) hR.loop (by simpa [rngRec] using hs), roundIn_of_wpIn trivial (h _ ?_)⟩
  intro a1 W1 hr1 hb
  have hlt : L < W1.heap.size := (Array.getElem?_eq_some_iff.1 hr1.loop).1
  refine ⟨_, run_beginRound hr1.loop rfl, hb _ _ ⟨World.putObj_heap_same hlt, (World.putObj_heap_other hne).trans hr1.defs⟩ ?_⟩
  intro a3 W3 hr3 hq
  have hlt3 : L < W3.heap.size := (Array.getElem?_eq_some_iff.1 hr3.loop).1
  exact ⟨_, _, run_endRound (P := P) none hr3.loop, hq _ ⟨World.putObj_heap_same hlt3, (World.putObj_heap_other hne).trans hr3.defs⟩⟩
/-- A region in the text's order, in a round: by the plain walk. -/
theorem listIn_of_list (l n : Nat) {P : Program} {ops : Array Oper} {Q : Exit → Act → World → Prop} (hl : ¬ LetsOut Q) : ∀ (os : List Oper) (a : Act) (w : World), os.all noDefer = true → wpList P ops Q os a w → wpListIn (Fence.wide.inRound l) n P ops Q os a w
  | [], _, _, _, h => h
  | o :: rest, a, w, hd, h => by
    rw [List.all_cons, Bool.and_eq_true] at hd
    have hno : ∀ c, o.op ≠ .defer c := fun c e => by have := hd.1; unfold noDefer at this; rw [e] at this; cases this
    unfold wpList at h
    unfold wpListIn
    split
    · rename_i hw
      rw [if_pos hw] at h
      rcases h with h | ⟨_, h⟩
      · exact opIn_of_op l n hno (Oper.wp_mono (fun a w h => listIn_of_list l n hl rest a w hd.2 h) h)
      · exact absurd h hl
    · rename_i hw
      rw [if_neg hw] at h
      exact ⟨fun _ _ => trivial, listIn_of_list l n hl rest _ w hd.2 h⟩
theorem regIn_of_list (l n : Nat) {P : Program} {id : Nat} {os : List Oper} {Q : Exit → Act → World → Prop} {a : Act} {w : World} (hd : os.all noDefer = true) (h : wpList P os.toArray (Ends fun a w => Q .normal a w) os a w) :
    (Code.region id os.toArray false).wpIn (Fence.wide.inRound l) n P Q a w :=
  wpIn_mono (Q := Ends fun a w => Q .normal a w) (wpIn_region_lit (listIn_of_list l n (fun ⟨_, _, h⟩ => h) os a w hd h)) (fun e a w h => by cases e <;> first | exact h | exact h.elim)
end Go.Proofs.YtboommbclbjlnaaDoor.Lf
