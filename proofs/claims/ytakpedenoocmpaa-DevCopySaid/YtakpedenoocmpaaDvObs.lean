import Derived.Test.YtakpedenoocmpaaDvDevs
import Derived.Test.YtakpedenoocmpaaRfNew
/-! Devices of both kinds, apart. -/
namespace Go.Proofs.Ytakpedenoocmpaa.Dv
open Go.RowKit Go.Proofs.YtakpedenoocmpaaW.PrintWords
set_option linter.unusedVariables false
set_option linter.unusedSimpArgs false

/-- A device of the program, or of the reference, and its block. -/
inductive Ob where
  | dev (g : Nat) (D : Dev)
  | ref (g : Nat) (D : Dev)
def Ob.Is (W : World) (b : Nat) (F : Nat → Prop) : Ob → Prop
  | .dev g D => IsDev W b F g D
  | .ref g D => Rf.IsDev W b F g D
def Ot (t : Nat) : Prop := t = 59 ∨ t = 9 ∨ t = 62 ∨ t = 66 ∨ t = 80
theorem Ot.of_D {t : Nat} (h : Dt t) : Ot t := by unfold Dt at h; unfold Ot; omega
theorem Ot.of_R {t : Nat} (h : Rf.Rt t) : Ot t := by unfold Rf.Rt at h; unfold Ot; omega
/-- What is known of a device's blocks. -/
def OBd (W : World) (b : Nat) (F : Nat → Prop) : Prop := ∀ k, F k → b ≤ k ∧ k < W.heap.size ∧ ∃ t, Ot t ∧ ∃ cells, W.heap[k]? = some (.cells cells t (0, 0))
section
variable {W W1 : World} {b : Nat} {F F' : Nat → Prop} {o : Ob} {L : List Ob}
theorem Ob.Is.step (h : o.Is W b F) (hs : ∀ k, F k → k < W.heap.size → W1.heap[k]? = W.heap[k]?) : o.Is W1 b F := by
  cases o with
  | dev g D => exact IsDev.step h hs
  | ref g D => exact Rf.IsDev.step h hs
theorem Ob.Is.mono (h : o.Is W b F) (hs : ∀ k, F k → F' k) : o.Is W b F' := by
  cases o with
  | dev g D => exact IsDev.mono h hs
  | ref g D => exact Rf.IsDev.mono h hs
theorem Ob.Is.bound (h : o.Is W b F) : o.Is W b (fun k => F k ∧ b ≤ k ∧ k < W.heap.size ∧ ∃ t, Ot t ∧ ∃ cells, W.heap[k]? = some (.cells cells t (0, 0))) := by
  cases o with
  | dev g D => exact (IsDev.bound h).mono (fun k ⟨h0, h1, h2, t, ht, hc⟩ => ⟨h0, h1, h2, t, Ot.of_D ht, hc⟩)
  | ref g D => exact (Rf.IsDev.bound h).mono (fun k ⟨h0, h1, h2, t, ht, hc⟩ => ⟨h0, h1, h2, t, Ot.of_R ht, hc⟩)
/-- Below b nothing turned, and no block of another type than a device's. -/
structure OFr (b : Nat) (W W1 : World) : Prop where
  below : Below b W W1
  kept : ∀ (k : Nat) (cs : Array Value) (t : Nat) (fr : Nat × Nat), W.heap[k]? = some (.cells cs t fr) → ¬ Ot t → W1.heap[k]? = W.heap[k]?
theorem OFr.of_grow (h : Below W.heap.size W W1) (hb : b ≤ W.heap.size) : OFr b W W1 := ⟨h.mono hb, fun k cs t fr hk _ => h.block k (blk_lt hk)⟩
theorem OFr.trans {W2 : World} (h : OFr b W W1) (k : OFr b W1 W2) : OFr b W W2 :=
  ⟨h.below.trans k.below, fun j cs t fr hj ht => (k.kept j cs t fr ((h.kept j cs t fr hj ht).trans hj) ht).trans (h.kept j cs t fr hj ht)⟩
def Obs (W : World) (b : Nat) (L : List Ob) : Prop :=
  ∃ Fs : Nat → Nat → Prop, (∀ (i : Nat) (o : Ob), L[i]? = some o → o.Is W b (Fs i)) ∧ (∀ i j k, i ≠ j → i < L.length → j < L.length → Fs i k → ¬ Fs j k)
theorem Obs.nil (W : World) (b : Nat) : Obs W b [] := ⟨fun _ _ => False, fun i o h => by simp at h, fun i j k _ hi => by simp at hi⟩
theorem Obs.step (h : Obs W b L) (hs : ∀ k t cells, Ot t → W.heap[k]? = some (.cells cells t (0, 0)) → b ≤ k → W1.heap[k]? = W.heap[k]?) : Obs W1 b L := by
  obtain ⟨Fs, h1, h2⟩ := h
  refine ⟨fun i k => Fs i k ∧ b ≤ k ∧ k < W.heap.size ∧ ∃ t, Ot t ∧ ∃ cells, W.heap[k]? = some (.cells cells t (0, 0)), fun i o hi => (h1 i o hi).bound.step ?_, fun i j k hne hi hj hk hk' => h2 i j k hne hi hj hk.1 hk'.1⟩
  rintro k ⟨_, hb, _, t, ht, cells, hc⟩ _
  exact hs k t cells ht hc hb
theorem Obs.below (h : Obs W b L) (hb : Below W.heap.size W W1) : Obs W1 b L := h.step (fun k t cells _ hc _ => hb.block k (blk_lt hc))
theorem Obs.drawn (h : Obs W b L) (hd : Drawn0 W W1) : Obs W1 b L := by
  obtain ⟨n, rfl⟩ := hd
  exact h.step (fun _ _ _ _ _ _ => rfl)
theorem Obs.get (h : Obs W b L) {i : Nat} (hi : L[i]? = some o) : ∃ F, o.Is W b F := by
  obtain ⟨Fs, h1, _⟩ := h
  exact ⟨_, h1 i o hi⟩
theorem Mv.ofr (h : Mv W W1 F) (hF : OBd W b F) (hb : b ≤ W.heap.size) : OFr b W W1 :=
  ⟨h.below (fun k hk => (hF k hk).1) hb, fun k cs t fr hk ht => h.block k (blk_lt hk) (by
    intro hf
    obtain ⟨_, _, t', ht', cells, hc⟩ := hF k hf
    rw [hk] at hc
    injection hc with hc
    injection hc with _ hc _
    exact ht (hc ▸ ht'))⟩
/-- A call of one of them. -/
theorem Obs.lift {P : Program} {f : FuncId} {args : Array Value} {i : Nat} {o1 : Ob} {post : Ending → Prop} (h : Obs W b L) (hb : b ≤ W.heap.size) (hi : L[i]? = some o)
    (hC : ∀ F, OBd W b F → o.Is W b F → Calls P f args W (fun e W1 => post e ∧ ∃ F1, o1.Is W1 b F1 ∧ (∀ k, F1 k → F k ∨ W.heap.size ≤ k) ∧ Mv W W1 F)) :
    Calls P f args W (fun e W1 => post e ∧ Obs W1 b (L.set i o1) ∧ OFr b W W1) := by
  obtain ⟨Fs, h1, h2⟩ := h
  refine (hC _ (fun k hk => hk.2) ((h1 i o hi).bound)).mono ?_
  rintro e W1 ⟨hp, F1, hI, hF1, hM⟩
  have hil : i < L.length := (List.getElem?_eq_some_iff.1 hi).1
  refine ⟨hp, ⟨fun j k => if j = i then F1 k else Fs j k ∧ b ≤ k ∧ k < W.heap.size, fun j o' hj => ?_, fun j j' k hne hj hj' hk hk' => ?_⟩, hM.below (fun k hk => hk.2.1) hb, fun k cs t fr hk ht => hM.block k (blk_lt hk) ?_⟩
  · rw [List.getElem?_set] at hj
    by_cases hji : i = j
    · subst hji
      rw [if_pos rfl, if_pos hil] at hj
      injection hj with hj
      subst hj
      simpa using hI
    · rw [if_neg hji] at hj
      have hj2 : j ≠ i := fun e => hji e.symm
      simp only [if_neg hj2]
      have hjl : j < L.length := (List.getElem?_eq_some_iff.1 hj).1
      refine ((h1 j o' hj).bound.mono (fun k hk => ⟨hk.1, hk.2.1, hk.2.2.1⟩)).step (fun k hk _ => hM.block k hk.2.2 (fun hf => h2 j i k hj2 hjl hil hk.1 hf.1))
  · rw [List.length_set] at hj hj'
    by_cases hji : j = i
    · subst hji
      have hj2 : j' ≠ j := fun e => hne e.symm
      simp only [if_pos rfl] at hk
      simp only [if_neg hj2] at hk'
      rcases hF1 k hk with hf | hf
      · exact h2 j j' k hne hj hj' hf.1 hk'.1
      · have := hk'.2.2; omega
    · simp only [if_neg hji] at hk
      by_cases hji' : j' = i
      · subst hji'
        simp only [if_pos rfl] at hk'
        rcases hF1 k hk' with hf | hf
        · exact h2 j j' k hne hj hj' hk.1 hf.1
        · have := hk.2.2; omega
      · simp only [if_neg hji'] at hk'
        exact h2 j j' k hne hj hj' hk.1 hk'.1
  · rintro ⟨_, _, _, t', ht', cells, hc⟩
    rw [hk] at hc
    injection hc with hc
    injection hc with _ hc _
    exact ht (hc ▸ ht')
/-- A new one. -/
theorem Obs.snoc (h : Obs W b L) (hg : Below W.heap.size W W1) (hb : b ≤ W.heap.size) (hI : o.Is W1 b F) (hF : ∀ k, F k → W.heap.size ≤ k) : Obs W1 b (L ++ [o]) := by
  obtain ⟨Fs, h1, h2⟩ := h
  refine ⟨fun j k => if j = L.length then F k else Fs j k ∧ b ≤ k ∧ k < W.heap.size, fun j o' hj => ?_, fun j j' k hne hj hj' hk hk' => ?_⟩
  · by_cases hji : j = L.length
    · subst hji
      simp at hj
      subst hj
      simpa using hI
    · have hjl : j < L.length := by
        have := (List.getElem?_eq_some_iff.1 hj).1
        rw [List.length_append, List.length_singleton] at this
        omega
      rw [List.getElem?_append_left hjl] at hj
      simp only [if_neg hji]
      refine ((h1 j o' hj).bound.mono (fun k hk => ⟨hk.1, hk.2.1, hk.2.2.1⟩)).step (fun k hk _ => hg.block k hk.2.2)
  · rw [List.length_append, List.length_singleton] at hj hj'
    by_cases hji : j = L.length
    · simp only [if_pos hji] at hk
      by_cases hji' : j' = L.length
      · omega
      · simp only [if_neg hji'] at hk'
        have := hF k hk
        have := hk'.2.2
        omega
    · simp only [if_neg hji] at hk
      by_cases hji' : j' = L.length
      · simp only [if_pos hji'] at hk'
        have := hF k hk'
        have := hk.2.2
        omega
      · simp only [if_neg hji'] at hk'
        exact h2 j j' k hne (by omega) (by omega) hk.1 hk'.1
end
section
variable {W : World} {b : Nat} {L : List Ob} {i g : Nat} {D : Dev}
theorem oWrite (h : Obs W b L) (i : Nat) {g : Nat} {D : Dev} (hi : L[i]? = some (.dev g D)) (hb : b ≤ W.heap.size) (hp : D.pend.length ≤ 1000000) (at_ : Int) (s : ByteArray) :
    Calls Try.prog 12 #[.pointer (some ⟨g, 0, none⟩), .int .i64 at_, .string s] W fun e W1 => e = .returned (.int .i64 (D.write at_ s).1) ∧ Obs W1 b (L.set i (.dev g (D.write at_ s).2)) ∧ OFr b W W1 :=
  h.lift hb hi (fun F _ hI => Write_calls hI at_ s hp hb)
theorem rWrite (h : Obs W b L) (i : Nat) {g : Nat} {D : Dev} (hi : L[i]? = some (.ref g D)) (hb : b ≤ W.heap.size) (hp : D.pend.length ≤ 1000000) (at_ : Int) (s : ByteArray) :
    Calls Try.prog 35 #[.pointer (some ⟨g, 0, none⟩), .int .i64 at_, .string s] W fun e W1 => e = .returned (.int .i64 (D.write at_ s).1) ∧ Obs W1 b (L.set i (.ref g (D.write at_ s).2)) ∧ OFr b W W1 :=
  h.lift hb hi (fun F _ hI => Rf.Write_calls hI at_ s hp hb)
theorem oFlush (h : Obs W b L) (i : Nat) {g : Nat} {D : Dev} (hi : L[i]? = some (.dev g D)) (hb : b ≤ W.heap.size) (hp : D.pend.length ≤ 1000000) :
    Calls Try.prog 14 #[.pointer (some ⟨g, 0, none⟩)] W fun e W1 => e = .returned (.int .i64 D.flush.1) ∧ Obs W1 b (L.set i (.dev g D.flush.2)) ∧ OFr b W W1 :=
  h.lift hb hi (fun F _ hI => Flush_calls hI hp)
theorem rFlush (h : Obs W b L) (i : Nat) {g : Nat} {D : Dev} (hi : L[i]? = some (.ref g D)) (hb : b ≤ W.heap.size) :
    Calls Try.prog 32 #[.pointer (some ⟨g, 0, none⟩)] W fun e W1 => e = .returned (.int .i64 (Rf.rflush D).1) ∧ Obs W1 b (L.set i (.ref g (Rf.rflush D).2)) ∧ OFr b W W1 :=
  h.lift hb hi (fun F _ hI => Rf.Flush_calls hI hb)
theorem oArm (h : Obs W b L) (i : Nat) {g : Nat} {D : Dev} (hi : L[i]? = some (.dev g D)) (hb : b ≤ W.heap.size) (n : Int) (hn : n < 9223372036854775808) :
    Calls Try.prog 17 #[.pointer (some ⟨g, 0, none⟩), .int .i64 n] W fun e W1 => e = .returned (.tuple #[]) ∧ Obs W1 b (L.set i (.dev g (D.arm n))) ∧ OFr b W W1 :=
  h.lift hb hi (fun F _ hI => Arm_calls hI n hn)
theorem rArm (h : Obs W b L) (i : Nat) {g : Nat} {D : Dev} (hi : L[i]? = some (.ref g D)) (hb : b ≤ W.heap.size) (n : Int) (hn : n < 9223372036854775808) :
    Calls Try.prog 33 #[.pointer (some ⟨g, 0, none⟩), .int .i64 n] W fun e W1 => e = .returned (.tuple #[]) ∧ Obs W1 b (L.set i (.ref g (D.arm n))) ∧ OFr b W W1 :=
  h.lift hb hi (fun F _ hI => Rf.Arm_calls hI n hn)
theorem oPower (h : Obs W b L) (i : Nat) {g : Nat} {D : Dev} (hi : L[i]? = some (.dev g D)) (hb : b ≤ W.heap.size) (hp : D.pend.length ≤ 1000000) (K : Option Addr) (keep : List Int) (ck : Nat) (hk : ∀ W', Below b W W' → (Kd.int .i64).C W' K keep.length keep) :
    Calls Try.prog 16 #[.pointer (some ⟨g, 0, none⟩), .slice K keep.length ck] W fun e W1 => e = .returned (.tuple #[]) ∧ Obs W1 b (L.set i (.dev g (D.power keep))) ∧ OFr b W W1 :=
  h.lift hb hi (fun F hF hI => Power_calls hI hp K keep ck (fun W' hM => hk W' (hM.ofr hF hb).below))
theorem rPower (h : Obs W b L) (i : Nat) {g : Nat} {D : Dev} (hi : L[i]? = some (.ref g D)) (hb : b ≤ W.heap.size) (hp : D.pend.length ≤ 1000000) (K : Option Addr) (keep : List Int) (ck : Nat) (hk : ∀ W', Below b W W' → (Kd.int .i64).C W' K keep.length keep) :
    Calls Try.prog 34 #[.pointer (some ⟨g, 0, none⟩), .slice K keep.length ck] W fun e W1 => e = .returned (.tuple #[]) ∧ Obs W1 b (L.set i (.ref g (D.power keep))) ∧ OFr b W W1 :=
  h.lift hb hi (fun F hF hI => Rf.Power_calls hI hb hp K keep ck (fun W' hM => hk W' (hM.ofr hF hb).below))
theorem oNew (h : Obs W b L) (hb : b ≤ W.heap.size) (n : Nat) {x : Int} (hx : x = (n : Int)) (h1 : 1 ≤ n) (h2 : n ≤ 8192) :
    Calls Try.prog 10 #[.int .i64 x] W fun e W1 => ∃ g, e = .returned (.tuple #[.pointer (some ⟨g, 0, none⟩), .int .i64 0]) ∧ Obs W1 b (L ++ [.dev g (Dev.fresh n)]) ∧ OFr b W W1 := by
  rw [hx]
  exact (New_calls n W b hb h1 h2).mono (fun e W1 ⟨g, he, hB, hI⟩ => ⟨g, he, h.snoc (o := .dev g (Dev.fresh n)) hB hb hI (fun _ hk => hk), OFr.of_grow hB hb⟩)
theorem rNew (h : Obs W b L) (hb : b ≤ W.heap.size) (n : Nat) {x : Int} (hx : x = (n : Int)) (h1 : 1 ≤ n) (h2 : n ≤ 8192) :
    Calls Try.prog 21 #[.int .i64 x] W fun e W1 => ∃ g, e = .returned (.tuple #[.pointer (some ⟨g, 0, none⟩), .int .i64 0]) ∧ Obs W1 b (L ++ [.ref g (Dev.fresh n)]) ∧ OFr b W W1 := by
  rw [hx]
  exact (Rf.New_calls n W b hb h1 h2).mono (fun e W1 ⟨g, he, hB, hI⟩ => ⟨g, he, h.snoc (o := .ref g (Dev.fresh n)) hB hb hI (fun _ hk => hk), OFr.of_grow hB hb⟩)
theorem oClone (h : Obs W b L) (i : Nat) {g : Nat} {D : Dev} (hi : L[i]? = some (.dev g D)) (hb : b ≤ W.heap.size) (hp : D.pend.length ≤ 1000000) :
    Calls Try.prog 20 #[.pointer (some ⟨g, 0, none⟩)] W fun e W1 => ∃ g', e = .returned (.pointer (some ⟨g', 0, none⟩)) ∧ Obs W1 b (L ++ [.dev g' D]) ∧ OFr b W W1 := by
  obtain ⟨F, hI⟩ := h.get hi
  exact (Clone_calls hI hb hp).mono (fun e W1 ⟨g', he, hB, hI'⟩ => ⟨g', he, h.snoc (o := .dev g' D) hB hb hI' (fun _ hk => hk), OFr.of_grow hB hb⟩)
end
end Go.Proofs.Ytakpedenoocmpaa.Dv
