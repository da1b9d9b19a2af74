import Derived.Test.YtfoniidbkbmjeaaDoorLfRuns
import Derived.Test.YtfoniidbkbmjeaaDoorLfBuild
import Derived.Test.YtfoniidbkbmjeaaDoorLfLe
import Derived.Test.YtfoniidbkbmjeaaDoorClStreamFinds1
import Derived.Test.YtfoniidbkbmjeaaDoorLfHeldIn
import Derived.RangeFuncBox
import Derived.Lib.OthersKept
import Derived.Deep.RegionHeld3
/- stream.Put, walked: a range over a function. -/









namespace Go.Proofs.YtfoniidbkbmjeaaDoor.Lf
open Go.RowKit Go.Shelf Go.Lib Go.Proofs.YtfoniidbkbmjeaaDoor.Pl
attribute [local go_sem] Oper.semAt_some
theorem builder_own {T e : TypeId} {B b : Nat} {β : Type} (f : β → List Value) : Own (fun s W => Lib.IsBuilderF T e B b (f s) W) := by
  intro s W W' row h hg hr
  have key : ∀ p, Lib.BuilderAtF T e B b p (f s) W → Lib.BuilderAtF T e B b p (f s) W' := by
    rintro p ⟨hB, v, hv, ⟨hl, hown⟩, hne⟩
    have hk : ∀ (g : Nat) (o : Obj), W.heap[g]? = some o → o.isCells = true → W'.heap[g]? = W.heap[g]? := fun g o ho hc => by
      refine hg.block g (Array.getElem?_eq_some_iff.1 ho).1 (fun er => ?_)
      obtain ⟨o', ho', hc'⟩ := hr g er.symm
      rw [ho] at ho'
      cases ho'
      rw [hc] at hc'
      cases hc'
    refine ⟨hB, v, (hk b _ hv rfl).trans hv, ⟨hl, ?_⟩, hne⟩
    rcases hown with hn | ⟨g, cap, cur, fz, h1, h2, h3, h4⟩
    · exact Or.inl hn
    · exact Or.inr ⟨g, cap, cur, fz, h1, h2, (hk g _ h3 rfl).trans h3, h4⟩
  exact h.elim (fun x => .inl (key _ x)) (fun x => .inr (key _ x))
theorem builder_below {T e : TypeId} {B b : Nat} {bs : List Value} {w w1 : World} (h : Lib.IsBuilderF T e B b bs w) (hb : Below w.heap.size w w1) : Lib.IsBuilderF T e B b bs w1 := by
  have key : ∀ p, Lib.BuilderAtF T e B b p bs w → Lib.BuilderAtF T e B b p bs w1 := by
    rintro p ⟨hB, v, hv, ⟨hl, hown⟩, hne⟩
    have hlt : b < w.heap.size := (Array.getElem?_eq_some_iff.1 hv).1
    refine ⟨hB, v, (hb.block b hlt).trans hv, ⟨hl, ?_⟩, hne⟩
    rcases hown with hn | ⟨g, cap, cur, fz, h1, h2, h3, h4⟩
    · exact Or.inl hn
    · exact Or.inr ⟨g, cap, cur, fz, h1, h2, (hb.block g (Array.getElem?_eq_some_iff.1 h3).1).trans h3, h4⟩
  exact h.elim (fun x => .inl (key _ x)) (fun x => .inr (key _ x))
theorem heap_setCell_other (w : World) (a : Addr) (v : Value) (k : Nat) (h : k ≠ a.block) : (w.setCell a v).heap[k]? = w.heap[k]? := Below.heap_setCell w a v k h
/-- A store into a box of another type leaves a builder as it is. -/
theorem builder_set {T e t : TypeId} {B b M : Nat} {bs : List Value} {w : World} {u x : Value} (h : Lib.IsBuilderF T e B b bs w) (hM : Boxed w M t u) (ht : t ≠ T) (he : t ≠ e) : Lib.IsBuilderF T e B b bs (w.setCell ⟨M, 0, none⟩ x) := by
  have key : ∀ p, Lib.BuilderAtF T e B b p bs w → Lib.BuilderAtF T e B b p bs (w.setCell ⟨M, 0, none⟩ x) := by
    rintro p ⟨hB, v, hv, ⟨hl, hown⟩, hne⟩
    have hM' : w.heap[M]? = some (.cells #[u] t (0, 0)) := hM
    have hk : ∀ (g : Nat) (c : Array Value) (t' : TypeId) (fz : Nat × Nat), w.heap[g]? = some (.cells c t' fz) → t ≠ t' → (w.setCell ⟨M, 0, none⟩ x).heap[g]? = w.heap[g]? := fun g c t' fz ho hn => by
      refine heap_setCell_other w _ x g (fun eq => ?_)
      have eq : g = M := eq
      rw [eq, hM'] at ho
      cases ho
      exact hn rfl
    refine ⟨hB, v, (hk b _ _ _ hv ht).trans hv, ⟨hl, ?_⟩, hne⟩
    rcases hown with hn | ⟨g, cap, cur, fz, h1, h2, h3, h4⟩
    · exact Or.inl hn
    · exact Or.inr ⟨g, cap, cur, fz, h1, h2, (hk g _ _ _ h3 he).trans h3, h4⟩
  exact h.elim (fun x => .inl (key _ x)) (fun x => .inr (key _ x))
theorem keeps_below {w w' : World} (h : Below w.heap.size w w') : KeepsOthers w w' := ⟨h.size, fun k _ hk _ => (h.block k (Array.getElem?_eq_some_iff.1 hk).1).trans hk⟩
theorem keeps_others {e : TypeId} {b : Nat} {B : Nat} {w w' : World} {T : TypeId} {bs : List Value} (h : Lib.OthersKept e (some b) w w') (hb : Below B w w') (hI : Lib.IsBuilderF T e B b bs w) : KeepsOthers w w' := by
  refine ⟨hb.size, fun k _ hk ho => h k _ hk ?_ ?_⟩
  · intro eq
    cases eq
    rcases hI with ⟨_, v, hv, _⟩ | ⟨_, v, hv, _⟩ <;> (rw [hv] at hk; cases hk; cases ho)
  · rintro c fz rfl
    cases ho
theorem s_cell (o1 o2 : Obj) (name flat : ByteArray) (time : Nat) {S : Nat} (W : World) (h : W.heap[S]? = some (.cells #[.string name, .int .u64 (time : Int), .string flat] 24 (0, 0))) : ((W.alloc o1).alloc o2).cell? ⟨S, 2, none⟩ = some (.string flat) := by
  have hlt : S < W.heap.size := (Array.getElem?_eq_some_iff.1 h).1
  have hb : Below W.heap.size W ((W.alloc o1).alloc o2) := ((Below.refl _ W).alloc (Nat.le_refl _) _).alloc (by simp) _
  refine (hb.cell (p := ⟨S, 2, none⟩) hlt).trans ?_
  simp [World.cell?, h]
/-- The box of the argument. -/
def HoldsS (name flat : ByteArray) (time : Nat) (S : Nat) (W : World) : Prop := W.heap[S]? = some (.cells #[.string name, .int .u64 (time : Int), .string flat] 24 (0, 0))
/-- The box of the loop's variable. -/
def HoldsX (x : Run) (B : Nat) (W : World) : Prop := W.heap[B]? = some (.cells #[.int .i64 (x.1.1 : Int), .string x.1.2] 53 (0, 0))
def HoldsF (flat : ByteArray) (F : Nat) (W : World) : Prop := W.heap[F]? = some (.cells #[.string flat] 9 (0, 0))
theorem kept_cells {W W' : World} {row : Option Nat} {B : Nat} {c : Array Value} {t : TypeId} {fz : Nat × Nat} (h : W.heap[B]? = some (.cells c t fz)) (hg : W.grownBy W' row) (hr : ∀ r, row = some r → ∃ o : Obj, W.heap[r]? = some o ∧ o.isCells = false) : W'.heap[B]? = some (.cells c t fz) := by
  refine (hg.block B (Array.getElem?_eq_some_iff.1 h).1 (fun er => ?_)).trans h
  obtain ⟨o, ho, hc⟩ := hr B er.symm
  rw [h] at ho
  cases ho
  cases hc
theorem holds_own {β : Type} (name flat : ByteArray) (time S : Nat) : Own (fun (_ : β) W => HoldsS name flat time S W) := fun _ _ _ _ h hg hr => kept_cells h hg hr
theorem holdsX_own (x : Run) (B : Nat) : Own (fun (_ : Unit) W => HoldsX x B W) := fun _ _ _ _ h hg hr => kept_cells h hg hr
theorem start_facts (name flat : ByteArray) (time : Nat) (w W1 : World) (hS1 : W1.heap[w.heap.size]? = some (.cells #[.string name, .int .u64 (time : Int), .string flat] 24 (0, 0))) (hbW1 : Below w.heap.size w W1) (W0 : World)
    (hW0 : ((W1.alloc (.cells #[.int .u64 0] 22)).alloc (.cells #[.pointer none, .slice none 0 0] 48)).alloc (.cells #[.string flat] 9) = W0) :
    Boxed W0 W1.heap.size 22 (.int .u64 ((0 : Nat) : Int)) ∧ Lib.IsBuilderF 48 5 (W1.heap.size + 1) (W1.heap.size + 1) (Lib.byteCells []) W0 ∧ HoldsS name flat time w.heap.size W0 ∧
    HoldsF flat (W1.heap.size + 1 + 1) W0 ∧ Below w.heap.size w W0 ∧ w.heap.size ≤ W0.heap.size := by
  have hlt : w.heap.size < W1.heap.size := (Array.getElem?_eq_some_iff.1 hS1).1
  have hb : Below W1.heap.size W1 W0 := by rw [← hW0]; exact (((Below.refl _ W1).alloc (Nat.le_refl _) _).alloc (by simp) _).alloc (by simp; omega) _
  have hbw : Below w.heap.size w W0 := hbW1.trans (hb.mono (Nat.le_of_lt hlt))
  refine ⟨?_, ?_, (hb.block _ hlt).trans hS1, ?_, hbw, hbw.size⟩
  · rw [← hW0]; exact ((Boxed.new W1 22 (.int .u64 0)).alloc _).alloc _
  · rw [← hW0]
    have h := Lib.IsBuilderF.of (Lib.fresh_isBuilder 48 5 (W1.alloc (.cells #[.int .u64 0] 22)))
    rw [World.size_alloc] at h
    exact h.alloc _
  · rw [← hW0]
    have h := (Boxed.new ((W1.alloc (.cells #[.int .u64 0] 22)).alloc (.cells #[.pointer none, .slice none 0 0] 48)) 9 (.string flat))
    rw [World.size_alloc, World.size_alloc] at h
    exact h
theorem holdsF_own {β : Type} (flat : ByteArray) (F : Nat) : Own (fun (_ : β) W => HoldsF flat F W) := fun _ _ _ _ h hg hr => kept_cells h hg hr
theorem HoldsF.cell {flat : ByteArray} {F : Nat} {W : World} (h : HoldsF flat F W) : W.cell? ⟨F, 0, none⟩ = some (.string flat) := by simp [World.cell?, show W.heap[F]? = _ from h]
theorem HoldsX.cells {x : Run} {B : Nat} {W : World} (h : HoldsX x B W) : W.cell? ⟨B, 0, none⟩ = some (.int .i64 (x.1.1 : Int)) ∧ W.cell? ⟨B, 1, none⟩ = some (.string x.1.2) := by
  constructor <;> simp [World.cell?, show W.heap[B]? = _ from h]
theorem put_str (n m : Nat) : strOfNums (bytesOf (n : Int) m) = ba (putN n m) := by
  unfold strOfNums bytesOf putN ba
  rw [List.map_map]
  congr 2
theorem put1_any (n : Nat) (h : n < 18446744073709551616) (w : World) : Calls Tryd.prog 21 #[.int .u64 (n : Int), .int .i64 1] w fun e w' => e = .returned (.string (ba (putN n 1))) ∧ Below w.heap.size w w' :=
  le_Put.calls (n : Int) 1 _ w (by unfold le_Put.f; rw [if_pos ⟨by omega, by omega⟩, put_str]; rfl)
theorem put8_any (n : Nat) (h : n < 18446744073709551616) (w : World) : Calls Tryd.prog 21 #[.int .u64 (n : Int), .int .i64 8] w fun e w' => e = .returned (.string (ba (putN n 8))) ∧ Below w.heap.size w w' :=
  le_Put.calls (n : Int) 8 _ w (by unfold le_Put.f; rw [if_pos ⟨by omega, by omega⟩, put_str]; rfl)
theorem holds_others {e : TypeId} {b k : Nat} {V V' : World} {T t : TypeId} {B : Nat} {bs : List Value} {c : Array Value} {fz : Nat × Nat} (h : Lib.OthersKept e (some b) V V') (hI : Lib.IsBuilderF T e B b bs V) (hx : V.heap[k]? = some (.cells c t fz)) (hT : t ≠ T) (he : t ≠ e) : V'.heap[k]? = some (.cells c t fz) := by
  refine h k _ hx ?_ ?_
  · intro eq
    cases eq
    rcases hI with ⟨_, v, hv, _⟩ | ⟨_, v, hv, _⟩ <;> (rw [hv] at hx; cases hx; exact hT rfl)
  · intro c' fz' eq
    cases eq
    exact he rfl
def bodyR (pre : List Run) : List UInt8 := pre.flatMap fun x => putN x.1.1 1 ++ putN (x.1.2.size / 16) 1 ++ x.1.2.data.toList
theorem restY_len (flat : ByteArray) (n : Nat) : ∀ k i f, (restY flat n k i f).length ≤ k
  | 0, _, _ => Nat.le_refl _
  | k + 1, i, f => by
    rw [restY]
    split
    · exact Nat.le_succ_of_le (restY_len flat n k _ _)
    · rw [List.length_append]
      have := restY_len flat n k (i + 1) (i + 1)
      split <;> simp <;> omega
/-- The cells that the last statement reads. -/
def Cells4 (name flat : ByteArray) (time m : Nat) (S M : Nat) (V : World) : Prop :=
  V.cell? ⟨S, 0, none⟩ = some (.string name) ∧ V.cell? ⟨S, 1, none⟩ = some (.int .u64 (time : Int)) ∧ V.cell? ⟨S, 2, none⟩ = some (.string flat) ∧ V.cell? ⟨M, 0, none⟩ = some (.int .u64 (m : Int))
theorem cells4 {name flat : ByteArray} {time m S M : Nat} {V : World} (h : HoldsS name flat time S V) (hM : Boxed V M 22 (.int .u64 (m : Int))) : Cells4 name flat time m S M V :=
  ⟨by simp [World.cell?, show V.heap[S]? = _ from h], by simp [World.cell?, show V.heap[S]? = _ from h], by simp [World.cell?, show V.heap[S]? = _ from h], hM.cell⟩
theorem cells4_below {name flat : ByteArray} {time m S M : Nat} {V V' : World} (h : Cells4 name flat time m S M V) {B : Nat} (hb : Below B V V') (hS : S < B) (hM : M < B) : Cells4 name flat time m S M V' :=
  ⟨(hb.cell (p := ⟨S, 0, none⟩) hS).trans h.1, (hb.cell (p := ⟨S, 1, none⟩) hS).trans h.2.1, (hb.cell (p := ⟨S, 2, none⟩) hS).trans h.2.2.1, (hb.cell (p := ⟨M, 0, none⟩) hM).trans h.2.2.2⟩
theorem bodyR_snoc (pre : List Run) (x : Run) : bodyR (pre ++ [x]) = bodyR pre ++ (putN x.1.1 1 ++ putN (x.1.2.size / 16) 1 ++ x.1.2.data.toList) := by simp [bodyR]
theorem bodyR_len : ∀ pre : List Run, (bodyR pre).length ≤ pre.length * 1026
  | [] => by simp [bodyR]
  | x :: r => by
    have ih := bodyR_len r
    have hx := x.2.2
    have e : (bodyR (x :: r)).length = 1 + (1 + x.1.2.size) + (bodyR r).length := by
      rw [show bodyR (x :: r) = (putN x.1.1 1 ++ putN (x.1.2.size / 16) 1 ++ x.1.2.data.toList) ++ bodyR r by simp [bodyR]]
      simp only [List.length_append, putN_length, Array.length_toList]
      show 1 + 1 + x.1.2.size + _ = _
      omega
    rw [e, List.length_cons]
    omega
theorem body_cells (pre : List Run) (x : Run) (A1 A2 : ByteArray) (h1 : ba (putN x.1.1 1) = A1) (h2 : ba (putN (x.1.2.size / 16) 1) = A2) : Lib.byteCells (bodyR pre) ++ Lib.strCells (A1 ++ A2 ++ x.1.2) = Lib.byteCells (bodyR (pre ++ [x])) := by
  rw [Lib.strCells_eq, ← Lib.byteCells_append, bodyR_snoc, ← h1, ← h2]
  simp [ba]

set_option maxHeartbeats 8000000 in
set_option maxRecDepth 1000000 in
theorem put_right (name flat : ByteArray) (time : Nat) (w : World) (HT : Tabs w) (hr : Fn.stream_Right.f name (time : Int) flat = some true) (n : Nat) (hz : flat.size = 16 * n) (hn : n ≤ 64) (hname : name.size ≤ 200) (ht : time < 18446744073709551616) (R : ByteArray)
    (hR : Fn.seal_Put.f (ba ([114, 99, 115, 116] ++ putN n 1 ++ putN time 8 ++ putN name.size 1 ++ name.data.toList ++ putN (restY flat n (n + 1) 0 0).length 1 ++ bodyR (restY flat n (n + 1) 0 0))) = some R) :
    Calls Tryd.prog 10 #[.agg #[.string name, .int .u64 (time : Int), .string flat]] w fun e w' => e = .returned (.tuple #[.string R, .int .i64 0]) ∧ Below w.heap.size w w' := by
  have hRt := Fn.stream_Right.calls name (time : Int) flat true
  refine (callsIn_wide (n := 5)).1 ?_
  refine callsIn_of_wp_marks Tryd.func10 rfl trivial ?_ rfl
  simp only [Tryd.ntmps10, List.size_toArray, List.length_cons, List.length_nil, Nat.reduceAdd, Nat.reduceSub, Array.replicate_succ, Array.replicate_zero, List.push_toArray, List.append_toArray, List.nil_append, List.cons_append]
  have hTs := HT.below ((Below.refl w.heap.size w).alloc (Nat.le_refl _) (.cells #[.string name, .int .u64 (time : Int), .string flat] 24))
  have hRw := hRt _ hr hTs
  clear hRt hTs
  have hS0 : (w.alloc (.cells #[.string name, .int .u64 (time : Int), .string flat] 24)).heap[w.heap.size]? = some (.cells #[.string name, .int .u64 (time : Int), .string flat] 24 (0, 0)) := World.alloc_heap_new w _
  have hb0 : Below w.heap.size w (w.alloc (.cells #[.string name, .int .u64 (time : Int), .string flat] 24)) := (Below.refl _ w).alloc (Nat.le_refl _) _
  have hs0 : w.heap.size < (w.alloc (.cells #[.string name, .int .u64 (time : Int), .string flat] 24)).heap.size := by simp
  gi_wp2_with (first
    | (refine ⟨trivial, ?_⟩; gi_at_call 13; refine (callsIn_wide.2 hRw).mono ?_; rintro e W1 ⟨rfl, hb1⟩; have hS1 := (hb1.block w.heap.size hs0).trans hS0; have hbW1 := hb0.trans (hb1.mono hb0.size); have hc1 := s_cell (.cells #[.int .u64 0] 22) (.cells #[.pointer none, .slice none 0 0] 48) name flat time W1 hS1)
    | (refine ⟨trivial, ?_⟩; gi_at_call 19; refine (callsIn_wide.2 (runs_any flat _)).mono ?_; rintro e W2 ⟨rfl, rfl⟩))
  obtain ⟨W0, hW0⟩ : ∃ W0, ((W1.alloc (.cells #[.int .u64 0] 22)).alloc (.cells #[.pointer none, .slice none 0 0] 48)).alloc (.cells #[.string flat] 9) = W0 := ⟨_, rfl⟩
  obtain ⟨hM0, hI0, hS0', hF0, hB0', hsz0⟩ := start_facts name flat time w W1 hS1 hbW1 W0 hW0
  rw [hW0]
  clear hW0 hc1 hRw hS0 hb0 hs0
  refine wpIn_rangeFunc_ownH rfl (by decide) (gf := 38) (lb := #[.pointer (some ⟨W1.heap.size + 1 + 1, 0, none⟩)]) rfl trivial (enters_of Tryd.func38 (by kernel_rfl) rfl)
    (runs_stops 4 (W1.heap.size + 1 + 1) flat n hz hn W0 hF0.cell) (fun h k v hv => k v (h v hv)) (fun W l o o' _ hl ho _ v hv => cell_kept hv (grownBy_putObj' W l o') (fun r e => by cases e; exact ⟨o, hl, ho⟩)) (Below.refl _ _) (fun _ => rfl)
    (fun pre W => ((Boxed W W1.heap.size 22 (.int .u64 (pre.length : Int)) ∧ Lib.IsBuilderF 48 5 (W1.heap.size + 1) (W1.heap.size + 1) (Lib.byteCells (bodyR pre)) W) ∧ HoldsS name flat time w.heap.size W ∧ HoldsF flat (W1.heap.size + 1 + 1) W) ∧ Below w.heap.size w W)
    (fun _ _ _ => False)
    (OwnFrom.and (OwnFrom.and (OwnFrom.and (Own.from (boxed_own _ _ (fun (pre : List Run) => Value.int .u64 (pre.length : Int))) _) (Own.from (builder_own (fun (pre : List Run) => Lib.byteCells (bodyR pre))) _)) (OwnFrom.and (Own.from (holds_own _ _ _ _) _) (Own.from (holdsF_own flat (W1.heap.size + 1 + 1)) _))) (ownFrom_below (Nat.le_refl _) hsz0))
    (fun _ _ _ _ _ hs _ _ => hs)
    ⟨⟨⟨hM0, hI0⟩, hS0', hF0⟩, hB0'⟩
    (fun x a' W => ∃ Bx, W1.heap.size < Bx ∧ HoldsX x Bx W ∧ a' = { tmps := #[.agg #[.string name, .int .u64 (time : Int), .string flat], .pointer (some ⟨w.heap.size, 0, none⟩), .string ⟨#[]⟩, .int .i64 0, .pointer (some ⟨W1.heap.size, 0, none⟩), .pointer (some ⟨W1.heap.size + 1, 0, none⟩), .pointer (some ⟨Bx, 0, none⟩), .agg #[.string name, .int .u64 (time : Int), .string flat], .bool true, .bool false, .pointer (some ⟨w.heap.size, 2, none⟩), .string flat, .func (.func 38) #[] #[.pointer (some ⟨W1.heap.size + 1 + 1, 0, none⟩)], .agg #[.int .i64 (x.1.1 : Int), .string x.1.2], undef, undef, undef, undef, undef, undef, undef, undef, undef, undef, undef, undef, undef, undef, undef, undef, undef, undef, undef, undef, undef, undef, undef, undef, undef, undef, undef, undef, undef, undef, undef, undef, undef, undef, undef, undef, undef, undef, undef, undef, undef, undef, undef], defers := [] })
    (fun x a' _ X Y row hs hg hr => by obtain ⟨Bx, h1, h2, h3⟩ := hs; exact ⟨Bx, h1, holdsX_own x Bx () X Y row h2 hg (fun r e => (hr r e).2), h3⟩)
    ?assign ?body ?done ?stop
  case assign =>
    rintro l pre x W K ⟨⟨⟨hM, hI⟩, hS, hF⟩, hB⟩ hK
    have HK := Lib.hid hK
    clear hK
    dsimp only [encR]
    gi_wp2
    have hbA : Below W.heap.size W (W.alloc (.cells #[.int .i64 (x.1.1 : Int), .string x.1.2] 53)) := (Below.refl _ W).alloc (Nat.le_refl _) _
    exact HK.out _ _ ((KeepsOthers.alloc _ _).from _) (fun v hv => (hbA.cell (cell_lt hv)).trans hv) ⟨⟨⟨hM.alloc _, builder_below hI hbA⟩, (hbA.block _ (Array.getElem?_eq_some_iff.1 hS).1).trans hS, (hbA.block _ (Array.getElem?_eq_some_iff.1 hF).1).trans hF⟩, hB.trans (hbA.mono hB.size)⟩ ⟨W.heap.size, hM.lt, World.alloc_heap_new W _, rfl⟩
  case body =>
    rintro l pre ⟨⟨xf, xs⟩, hx1, hx2⟩ a' W hl ⟨r, hr⟩ ⟨⟨⟨hM, hI⟩, hS, hF⟩, hB⟩ ⟨Bx, hBx, hX, rfl⟩ hlt
    have hMc := hM.cell
    have hMf := hM.frozen
    have cw : IntKind.u64.wrap ((pre.length : Int) + 1) = ((pre.length + 1 : Nat) : Int) := by
      simp [IntKind.wrap, IntKind.bits, IntKind.signed]; omega
    simp only at hx1 hx2
    gi_wp2
    rw [show ((pre.length : Int) + 1) = ((pre.length + 1 : Nat) : Int) by omega]
    obtain ⟨W2, hW2⟩ : ∃ W2, W.setCell ⟨W1.heap.size, 0, none⟩ (.int .u64 ((pre.length + 1 : Nat) : Int)) = W2 := ⟨_, rfl⟩
    rw [hW2]
    have hws : w.heap.size < W1.heap.size := (Array.getElem?_eq_some_iff.1 hS1).1
    have hM2 : Boxed W2 W1.heap.size 22 (.int .u64 ((pre.length + 1 : Nat) : Int)) := by rw [← hW2]; exact hM.set _
    have hI2 : Lib.IsBuilderF 48 5 (W1.heap.size + 1) (W1.heap.size + 1) (Lib.byteCells (bodyR pre)) W2 := by rw [← hW2]; exact builder_set hI hM (by decide) (by decide)
    have hS2 : HoldsS name flat time w.heap.size W2 := by rw [← hW2]; exact (heap_setCell_other W _ _ _ (Nat.ne_of_lt hws)).trans hS
    have hF2 : HoldsF flat (W1.heap.size + 1 + 1) W2 := by rw [← hW2]; exact (heap_setCell_other W _ _ _ (by simp; omega)).trans hF
    have hX2 : HoldsX ⟨⟨xf, xs⟩, hx1, hx2⟩ Bx W2 := by rw [← hW2]; exact (heap_setCell_other W _ _ _ (by simp; omega)).trans hX
    have hB2 : Below w.heap.size W W2 := by rw [← hW2]; exact (Below.refl _ W).setCell (p := ⟨W1.heap.size, 0, none⟩) (Nat.le_of_lt hws) _
    have hB2' : Below w.heap.size w W2 := hB.trans hB2
    have hk2 : KeepsOthers W W2 := by rw [← hW2]; exact KeepsOthers.setCell _ _ _
    obtain ⟨hx0, hxs⟩ := hX2.cells
    simp only at hx0 hxs
    have hBx2 : Bx < W2.heap.size := (Array.getElem?_eq_some_iff.1 hX2).1
    have cx : IntKind.u64.wrap (xf : Int) = (xf : Int) := by simp [IntKind.wrap, IntKind.bits, IntKind.signed]; omega
    have cq : IntKind.u64.wrap ((xs.size : Int) / 16) = (xs.size : Int) / 16 := by simp [IntKind.wrap, IntKind.bits, IntKind.signed]; omega
    have cq2 : IntKind.i64.wrap ((xs.size : Int) / 16) = (xs.size : Int) / 16 := by simp [IntKind.wrap, IntKind.bits, IntKind.signed]; omega
    have hP1 := fun w => put1_any xf (by omega) w
    have hP2 := fun w => put1_any (xs.size / 16) (by omega) w
    rw [show ((xs.size / 16 : Nat) : Int) = (xs.size : Int) / 16 by omega] at hP2
    have hdr : Below W2.heap.size W2 W2.drew := ⟨rfl, rfl, rfl, Nat.le_refl _, fun _ _ => rfl⟩
    obtain ⟨A1, hA1⟩ : ∃ A, ba (putN xf 1) = A := ⟨_, rfl⟩
    obtain ⟨A2, hA2⟩ : ∃ A, ba (putN (xs.size / 16) 1) = A := ⟨_, rfl⟩
    have sA1 : A1.size = 1 := by rw [← hA1, ba_size, putN_length]
    have sA2 : A2.size = 1 := by rw [← hA2, ba_size, putN_length]
    rw [hA1] at hP1
    rw [hA2] at hP2
    have hcs : 1 + 1 + xs.size ≤ 9223372036854775807 := by omega
    have hWS : ∀ V, Below W2.heap.size W2 V → Calls Tryd.prog 20 #[.pointer (some ⟨W1.heap.size + 1, 0, none⟩), .string (A1 ++ A2 ++ xs)] V fun e w' => e = .returned (.tuple #[.int .i64 (A1 ++ A2 ++ xs).size, .nilIface]) ∧ (Lib.BuilderAtF 48 5 (W1.heap.size + 1) (W1.heap.size + 1) (.pointer (some ⟨W1.heap.size + 1, 0, none⟩)) (Lib.byteCells (bodyR pre) ++ Lib.strCells (A1 ++ A2 ++ xs)) w' ∧ Below (W1.heap.size + 1) V w' ∧ Lib.OthersKept 5 (some (W1.heap.size + 1)) V w') := fun V hV =>
      Sh.Builder_WriteString_k (W1.heap.size + 1) (W1.heap.size + 1) (Lib.byteCells (bodyR pre)) (A1 ++ A2 ++ xs) V (builder_below hI2 hV) (by have := bodyR_len pre; rw [Lib.byteCells_length, ByteArray.size_append, ByteArray.size_append, sA1, sA2]; omega) (by have := hV.size; have := (Array.getElem?_eq_some_iff.1 hF2).1; omega)
    have hXd : HoldsX ⟨⟨xf, xs⟩, hx1, hx2⟩ Bx W2.drew := hX2
    refine wpIn_round_held (HoldsX ⟨⟨xf, xs⟩, hx1, hx2⟩ Bx) l _ (by kernel_rfl) (by kernel_rfl) hXd (fun hS => ?_)
    refine take1 0 (some 16) (.pointer (some ⟨Bx, 0, none⟩)) rfl (by kernel_rfl) (by rfl) rfl (fun V hV => ?_) hS ?_
    · obtain ⟨hv0, hv1⟩ := hV.cells
      simp only at hv0 hv1
      go_simp
    simp only [Act.put, List.setIfInBounds_toArray, List.set_cons_zero, List.set_cons_succ]
    refine take1 1 (some 17) (.int .i64 (xf : Int)) rfl (by kernel_rfl) (by rfl) rfl (fun V hV => ?_) hS ?_
    · obtain ⟨hv0, hv1⟩ := hV.cells
      simp only at hv0 hv1
      go_simp
    simp only [Act.put, List.setIfInBounds_toArray, List.set_cons_zero, List.set_cons_succ]
    refine take1 2 (some 18) (.int .u64 (xf : Int)) rfl (by kernel_rfl) (by rfl) rfl (fun V hV => ?_) hS ?_
    · obtain ⟨hv0, hv1⟩ := hV.cells
      simp only at hv0 hv1
      go_simp
    simp only [Act.put, List.setIfInBounds_toArray, List.set_cons_zero, List.set_cons_succ]
    refine take1 4 (some 20) (.pointer (some ⟨Bx, 1, none⟩)) rfl (by kernel_rfl) (by rfl) rfl (fun V hV => ?_) hS ?_
    · obtain ⟨hv0, hv1⟩ := hV.cells
      simp only at hv0 hv1
      go_simp
    simp only [Act.put, List.setIfInBounds_toArray, List.set_cons_zero, List.set_cons_succ]
    refine take1 5 (some 21) (.string xs) rfl (by kernel_rfl) (by rfl) rfl (fun V hV => ?_) hS ?_
    · obtain ⟨hv0, hv1⟩ := hV.cells
      simp only at hv0 hv1
      go_simp
    simp only [Act.put, List.setIfInBounds_toArray, List.set_cons_zero, List.set_cons_succ]
    refine take1 6 (some 22) (.int .i64 (xs.size : Int)) rfl (by kernel_rfl) (by rfl) rfl (fun V hV => ?_) hS ?_
    · obtain ⟨hv0, hv1⟩ := hV.cells
      simp only at hv0 hv1
      go_simp
    simp only [Act.put, List.setIfInBounds_toArray, List.set_cons_zero, List.set_cons_succ]
    refine take1 7 (some 23) (.int .i64 ((xs.size : Int) / 16)) rfl (by kernel_rfl) (by rfl) rfl (fun V hV => ?_) hS ?_
    · obtain ⟨hv0, hv1⟩ := hV.cells
      simp only at hv0 hv1
      go_simp
    simp only [Act.put, List.setIfInBounds_toArray, List.set_cons_zero, List.set_cons_succ]
    refine take1 8 (some 24) (.int .u64 ((xs.size : Int) / 16)) rfl (by kernel_rfl) (by rfl) rfl (fun V hV => ?_) hS ?_
    · obtain ⟨hv0, hv1⟩ := hV.cells
      simp only at hv0 hv1
      go_simp
    simp only [Act.put, List.setIfInBounds_toArray, List.set_cons_zero, List.set_cons_succ]
    refine take1 11 (some 27) (.pointer (some ⟨Bx, 1, none⟩)) rfl (by kernel_rfl) (by rfl) rfl (fun V hV => ?_) hS ?_
    · obtain ⟨hv0, hv1⟩ := hV.cells
      simp only at hv0 hv1
      go_simp
    simp only [Act.put, List.setIfInBounds_toArray, List.set_cons_zero, List.set_cons_succ]
    refine take1 12 (some 28) (.string xs) rfl (by kernel_rfl) (by rfl) rfl (fun V hV => ?_) hS ?_
    · obtain ⟨hv0, hv1⟩ := hV.cells
      simp only at hv0 hv1
      go_simp
    simp only [Act.put, List.setIfInBounds_toArray, List.set_cons_zero, List.set_cons_succ]
    refine call1 3 (some 19) 21 #[.int .u64 (xf : Int), .int .i64 1] rfl (by kernel_rfl) (by rfl) rfl ?_ ?_
    · go_simp
    refine (hP1 _).mono ?_
    rintro e V1 ⟨rfl, hv1⟩
    have hb1 := hdr.trans hv1
    refine ⟨_, rfl, (hb1.block _ hBx2).trans hX2, fun hS => ?_⟩
    simp only [Act.put, List.setIfInBounds_toArray, List.set_cons_zero, List.set_cons_succ]
    refine call1 9 (some 25) 21 #[.int .u64 ((xs.size : Int) / 16), .int .i64 1] rfl (by kernel_rfl) (by rfl) rfl ?_ ?_
    · go_simp
    refine (hP2 _).mono ?_
    rintro e V2 ⟨rfl, hv2⟩
    have hb2 := hb1.trans (hv2.mono hb1.size)
    refine ⟨_, rfl, (hb2.block _ hBx2).trans hX2, fun hS => ?_⟩
    simp only [Act.put, List.setIfInBounds_toArray, List.set_cons_zero, List.set_cons_succ]
    refine take1 10 (some 26) (.string (A1 ++ A2)) rfl (by kernel_rfl) (by rfl) rfl (fun V hV => ?_) hS ?_
    · obtain ⟨hv0, hv1⟩ := hV.cells
      simp only at hv0 hv1
      go_simp
    simp only [Act.put, List.setIfInBounds_toArray, List.set_cons_zero, List.set_cons_succ]
    refine take1 13 (some 29) (.string (A1 ++ A2 ++ xs)) rfl (by kernel_rfl) (by rfl) rfl (fun V hV => ?_) hS ?_
    · obtain ⟨hv0, hv1⟩ := hV.cells
      simp only at hv0 hv1
      go_simp
    simp only [Act.put, List.setIfInBounds_toArray, List.set_cons_zero, List.set_cons_succ]
    refine call1 14 (some 30) 20 #[.pointer (some ⟨W1.heap.size + 1, 0, none⟩), .string (A1 ++ A2 ++ xs)] rfl (by kernel_rfl) (by rfl) rfl ?_ ?_
    · go_simp
    refine (hWS _ hb2).mono ?_
    rintro e V3 ⟨rfl, hI3, hb3, ho3⟩
    have hIV := builder_below hI2 hb2
    have hMV := holds_others ho3 hIV ((hb2.block _ hM2.lt).trans hM2) (by decide) (by decide)
    have hXV := holds_others ho3 hIV ((hb2.block _ hBx2).trans hX2) (by decide) (by decide)
    have hSV := holds_others ho3 hIV ((hb2.block _ (Array.getElem?_eq_some_iff.1 hS2).1).trans hS2) (by decide) (by decide)
    have hFV : HoldsF flat (W1.heap.size + 1 + 1) V3 := holds_others ho3 hIV ((hb2.block _ (Array.getElem?_eq_some_iff.1 hF2).1).trans hF2) (by decide) (by decide)
    rw [body_cells pre ⟨⟨xf, xs⟩, hx1, hx2⟩ A1 A2 hA1 hA2] at hI3
    refine ⟨_, rfl, hXV, fun hS => ?_⟩
    simp only [Act.put, List.setIfInBounds_toArray, List.set_cons_zero, List.set_cons_succ]
    refine wpAnyH_done (by kernel_rfl) ?_ _
    have hkk := (hk2.trans (keeps_below hb2)).trans (keeps_others ho3 hb3 hIV)
    exact ⟨hkk.from _, fun v hv => by rw [hF.cell] at hv; rw [hFV.cell]; exact hv, ⟨⟨by rw [List.length_append]; exact hMV, .inr hI3⟩, hSV, hFV⟩, hB.trans (hB2.trans ((hb2.mono hB2'.size).trans (hb3.mono (by omega))))⟩
  case done =>
    rintro D ys W hD rfl ⟨⟨⟨hM, hI⟩, hS, hF⟩, hB⟩ hK
    obtain ⟨Y, hYe⟩ : ∃ Y, restY flat n (n + 1) 0 0 = Y := ⟨_, rfl⟩
    have hYl : Y.length ≤ 65 := by rw [← hYe]; exact Nat.le_trans (restY_len _ _ _ _ _) (by omega)
    rw [hYe] at hM hI hR
    clear hYe
    have hBl := bodyR_len Y
    obtain ⟨Bt, hBt⟩ : ∃ Bt : ByteArray, ⟨(bodyR Y).toArray⟩ = Bt := ⟨_, rfl⟩
    have sBt : Bt.size ≤ 100000 := by rw [← hBt]; show (bodyR Y).toArray.size ≤ _; rw [List.size_toArray]; omega
    obtain ⟨A1, hA1⟩ : ∃ A, ba (putN n 1) = A := ⟨_, rfl⟩
    obtain ⟨A2, hA2⟩ : ∃ A, ba (putN time 8) = A := ⟨_, rfl⟩
    obtain ⟨A3, hA3⟩ : ∃ A, ba (putN name.size 1) = A := ⟨_, rfl⟩
    obtain ⟨A4, hA4⟩ : ∃ A, ba (putN Y.length 1) = A := ⟨_, rfl⟩
    have sA1 : A1.size = 1 := by rw [← hA1, ba_size, putN_length]
    have sA2 : A2.size = 8 := by rw [← hA2, ba_size, putN_length]
    have sA3 : A3.size = 1 := by rw [← hA3, ba_size, putN_length]
    have sA4 : A4.size = 1 := by rw [← hA4, ba_size, putN_length]
    have hSP : Fn.seal_Put.f (⟨#[114, 99, 115, 116]⟩ ++ A1 ++ A2 ++ A3 ++ name ++ A4 ++ Bt) = some R := by
      rw [← hR]
      congr 1
      rw [← hA1, ← hA2, ← hA3, ← hA4, ← hBt]
      apply ByteArray.ext
      simp [ba]
    have hP1 := fun w => put1_any n (by omega) w
    have hP2 := fun w => put8_any time ht w
    have hP3 := fun w => put1_any name.size (by omega) w
    have hP4 := fun w => put1_any Y.length (by omega) w
    rw [hA1] at hP1
    rw [hA2] at hP2
    rw [hA3] at hP3
    rw [hA4] at hP4
    have hSPc := fun w => Fn.seal_Put.calls _ _ w hSP
    have c1 : IntKind.i64.wrap ((flat.size : Int) / 16) = (n : Int) := by rw [hz]; simp [IntKind.wrap, IntKind.bits, IntKind.signed]; omega
    have c2 : IntKind.u64.wrap (n : Int) = (n : Int) := by simp [IntKind.wrap, IntKind.bits, IntKind.signed]; omega
    have c3 : IntKind.u64.wrap (name.size : Int) = (name.size : Int) := by simp [IntKind.wrap, IntKind.bits, IntKind.signed]; omega
    have hws : w.heap.size < W1.heap.size := (Array.getElem?_eq_some_iff.1 hS1).1
    have hWz : W1.heap.size + 1 + 1 < W.heap.size := (Array.getElem?_eq_some_iff.1 hF).1
    have hc0 := cells4 hS hM
    have hcd : Cells4 name flat time Y.length w.heap.size W1.heap.size W.drew := hc0
    have hb0 : Below W.heap.size W W.drew := ⟨rfl, rfl, rfl, Nat.le_refl _, fun _ _ => rfl⟩
    have hBS := fun V (hV : Below W.heap.size W V) => Sh.Builder_String_any_k (W1.heap.size + 1) (W1.heap.size + 1) (bodyR Y) V (builder_below hI hV) (by have := hV.size; omega)
    rw [hBt] at hBS
    have c0 : IntKind.i64.wrap (n : Int) = (n : Int) := by simp [IntKind.wrap, IntKind.bits, IntKind.signed]; omega
    have f1 : (9223372036854775807 < 14 + name.size) = False := eq_false (by omega)
    have f2 : (9223372036854775807 < 14 + name.size + 1) = False := eq_false (by omega)
    have f3 : (9223372036854775807 < 14 + name.size + 1 + Bt.size) = False := eq_false (by omega)
    clear hA1 hA2 hA3 hA4 hBt hSP hR hBl hz
    gi_wp2
    refine wpIn_wide.2 ?_
    go_region_held3 (fun V => V.cell? ⟨w.heap.size, 0, none⟩ = some (.string name) ∧ V.cell? ⟨w.heap.size, 1, none⟩ = some (.int .u64 (time : Int)) ∧ V.cell? ⟨w.heap.size, 2, none⟩ = some (.string flat) ∧ V.cell? ⟨W1.heap.size, 0, none⟩ = some (.int .u64 (Y.length : Int)))
      (first | exact hd6 | exact hd5 | exact hd4 | exact hd3 | exact hd2 | exact hd1 | exact hcd) (first
      | (go_at_call 21; refine (hP1 _).mono ?_; clear hP1; rintro e V1 ⟨rfl, hv1⟩; have hb1 := hb0.trans hv1; have hd1 : Cells4 name flat time Y.length w.heap.size W1.heap.size V1 := cells4_below hc0 hb1 (by omega) (by omega))
      | (go_at_call 21; refine (hP2 _).mono ?_; clear hP2; rintro e V2 ⟨rfl, hv2⟩; have hb2 := hb1.trans (hv2.mono hb1.size); have hd2 : Cells4 name flat time Y.length w.heap.size W1.heap.size V2 := cells4_below hc0 hb2 (by omega) (by omega))
      | (go_at_call 21; refine (hP3 _).mono ?_; clear hP3; rintro e V3 ⟨rfl, hv3⟩; have hb3 := hb2.trans (hv3.mono hb2.size); have hd3 : Cells4 name flat time Y.length w.heap.size W1.heap.size V3 := cells4_below hc0 hb3 (by omega) (by omega))
      | (go_at_call 21; refine (hP4 _).mono ?_; clear hP4; rintro e V4 ⟨rfl, hv4⟩; have hb4 := hb3.trans (hv4.mono hb3.size); have hd4 : Cells4 name flat time Y.length w.heap.size W1.heap.size V4 := cells4_below hc0 hb4 (by omega) (by omega))
      | (go_at_call 23; refine (hBS _ hb4).mono ?_; clear hBS; rintro e V5 ⟨rfl, hI5, hv5, ho5⟩; have hd5 : Cells4 name flat time Y.length w.heap.size W1.heap.size V5 := cells4_below hd4 hv5 (by omega) (by omega))
      | (go_at_call 22; refine (hSPc _).mono ?_; clear hSPc; rintro e V6 ⟨rfl, hv6⟩; have hd6 : Cells4 name flat time Y.length w.heap.size W1.heap.size V6 := cells4_below hd5 hv6 (by have := hv5.size; have := hb4.size; omega) (by have := hv5.size; have := hb4.size; omega)))
    all_goals (
      gi_wp2
      have hIV := builder_below hI hb4
      have hkk := ((keeps_below hb4).trans (keeps_others ho5 hv5 hIV)).trans (keeps_below hv6)
      have hK6 : V6.heap[D]? = some (.deferred (some [])) := hkk.same D _ hK rfl
      have hwW : w.heap.size ≤ W.heap.size := hB.size
      have hBf : Below w.heap.size w V6 := hB.trans ((hb4.mono hwW).trans ((hv5.mono (by omega)).trans (hv6.mono (by have := hv5.size; have := hb4.size; omega))))
      refine ⟨by simp, .inl ⟨_, _, rfl, run_takeDeferred hK6, ?_⟩⟩
      refine ⟨_, results_tmp2 rfl _ _ _, rfl, ?_⟩
      exact hBf.trans (belowK_b (w := w) (Nat.le_refl _) V6 D _ _ (by omega) hK6 rfl rfl))
  case stop =>
    rintro D c pre W _ _ h _
    exact h.elim
set_option maxHeartbeats 8000000 in
set_option maxRecDepth 1000000 in
theorem put_not (name flat : ByteArray) (time : Nat) (w : World) (HT : Tabs w) (hr : Fn.stream_Right.f name (time : Int) flat = some false) :
    Calls Tryd.prog 10 #[.agg #[.string name, .int .u64 (time : Int), .string flat]] w fun e w' => e = .returned (.tuple #[.string ⟨#[]⟩, .int .i64 1]) ∧ Below w.heap.size w w' := by
  have hRt := Fn.stream_Right.calls name (time : Int) flat false
  refine (callsIn_wide (n := 5)).1 ?_
  refine callsIn_of_wp_marks Tryd.func10 rfl trivial ?_ rfl
  simp only [Tryd.ntmps10, List.size_toArray, List.length_cons, List.length_nil, Nat.reduceAdd, Nat.reduceSub, Array.replicate_succ, Array.replicate_zero, List.push_toArray, List.append_toArray, List.nil_append, List.cons_append]
  have hTs := HT.below ((Below.refl w.heap.size w).alloc (Nat.le_refl _) (.cells #[.string name, .int .u64 (time : Int), .string flat] 24))
  have hRw := hRt _ hr hTs
  clear hRt hTs
  have hS0 : (w.alloc (.cells #[.string name, .int .u64 (time : Int), .string flat] 24)).heap[w.heap.size]? = some (.cells #[.string name, .int .u64 (time : Int), .string flat] 24 (0, 0)) := World.alloc_heap_new w _
  have hb0 : Below w.heap.size w (w.alloc (.cells #[.string name, .int .u64 (time : Int), .string flat] 24)) := (Below.refl _ w).alloc (Nat.le_refl _) _
  gi_wp2_with (refine ⟨trivial, ?_⟩; gi_at_call 13; refine (callsIn_wide.2 hRw).mono ?_; rintro e W1 ⟨rfl, hb1⟩)
  exact ⟨_, results_tmp2 rfl _ _ _, rfl, hb0.trans (hb1.mono hb0.size)⟩
/-- The text ahead of its sum. -/
def textR (name : ByteArray) (time : Nat) (flat : ByteArray) : ByteArray :=
  ba ([114, 99, 115, 116] ++ putN (flat.size / 16) 1 ++ putN time 8 ++ putN name.size 1 ++ name.data.toList ++ putN (restY flat (flat.size / 16) (flat.size / 16 + 1) 0 0).length 1 ++ bodyR (restY flat (flat.size / 16) (flat.size / 16 + 1) 0 0))
def putF (name : ByteArray) (time : Int) (flat : ByteArray) : Option (ByteArray × Int) :=
  if 0 ≤ time ∧ time < 18446744073709551616 ∧ flat.size % 16 = 0 ∧ flat.size / 16 ≤ 64 ∧ name.size ≤ 200 ∧ Fn.stream_Right.f name time flat = some true then (Fn.seal_Put.f (textR name time.toNat flat)).bind fun r => some (r, 0)
  else if 0 ≤ time ∧ time < 18446744073709551616 ∧ Fn.stream_Right.f name time flat = some false then some (⟨#[]⟩, 1) else none
theorem put_calls (name : ByteArray) (time : Int) (flat : ByteArray) (r1 : ByteArray) (r2 : Int) (w : World) (h : putF name time flat = some (r1, r2)) (HT : Tabs w) :
    Calls Tryd.prog 10 #[.agg #[.string name, .int .u64 time, .string flat]] w fun e w' => e = .returned (.tuple #[.string r1, .int .i64 r2]) ∧ Below w.heap.size w w' := by
  unfold putF at h
  split at h
  · rename_i hc
    obtain ⟨h0, h1, h2, h3, h4, h5⟩ := hc
    obtain ⟨t, rfl⟩ : ∃ t : Nat, time = (t : Int) := ⟨time.toNat, by omega⟩
    cases hs : Fn.seal_Put.f (textR name (t : Int).toNat flat) with
    | none => rw [hs] at h; cases h
    | some r =>
      rw [hs] at h
      cases h
      exact put_right name flat t w HT h5 (flat.size / 16) (by omega) h3 h4 (by omega) r1 hs
  · split at h
    · rename_i hc
      cases h
      obtain ⟨t, rfl⟩ : ∃ t : Nat, time = (t : Int) := ⟨time.toNat, by omega⟩
      exact put_not name flat t w HT hc.2.2
    · cases h
end Go.Proofs.YtfoniidbkbmjeaaDoor.Lf
