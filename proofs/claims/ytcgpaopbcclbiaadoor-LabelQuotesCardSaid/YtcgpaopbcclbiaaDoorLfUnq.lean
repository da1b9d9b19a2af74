/- label.Unquote, walked: what a quoted word stands for, or that it is none. -/
import Derived.Test.YtcgpaopbcclbiaaDoorLfMeant
import Derived.Test.YtcgpaopbcclbiaaDoorLfQuote
namespace Go.Proofs.YtcgpaopbcclbiaaDoor.Lf
open Go.RowKit Go.Lib Go.Proofs.YtcgpaopbcclbiaaDoor.Pl
def unqGo : Nat → List UInt8 → List UInt8 → Option (List UInt8)
  | 0, _, acc => some acc
  | n + 1, l, acc => if l = [] then some acc else if (Lib.cut l [92]).2.2 = false then some (acc ++ (Lib.cut l [92]).1) else
    match meantV (Lib.cut l [92]).2.1 with
    | none => none
    | some x => unqGo n x.2 (acc ++ (Lib.cut l [92]).1 ++ x.1)
def unqR (l : List UInt8) : Option (List UInt8) := unqGo l.length l []
def unqF (l : List UInt8) (r : Option (List UInt8)) : List UInt8 × Int :=
  match r with
  | none => ([], 2)
  | some T => if T = [] then ([], 2) else if quoteL T = l then (T, 0) else ([], 2)
def unqV (l : List UInt8) : List UInt8 × Int := if l = [92, 95] then ([], 0) else unqF l (unqR l)
theorem cut_less (l : List UInt8) (h : (Lib.cut l [92]).2.2 = true) : (Lib.cut l [92]).1.length + 1 + (Lib.cut l [92]).2.1.length = l.length := by
  unfold Lib.cut at h ⊢
  split at h
  · rename_i h0
    rw [if_pos h0]
    have h1 := Lib.index_ge l [92]
    have hlt : (Lib.index l [92]).toNat < l.length := by
      clear h
      obtain ⟨s, hs⟩ : ∃ s : ByteArray, s = ⟨l.toArray⟩ := ⟨_, rfl⟩
      rcases Lib.indexB_cases s ⟨#[92]⟩ with h2 | ⟨i, h2, h3⟩
      · have : Lib.index l [92] = -1 := by rw [hs] at h2; exact h2
        omega
      · have e : Lib.index l [92] = (i : Int) := by rw [hs] at h2; exact h2
        have hsz : s.size = l.length := by rw [hs]; simp [ByteArray.size]
        rw [hsz] at h3
        have : (⟨#[92]⟩ : ByteArray).size = 1 := rfl
        omega
    simp only [List.length_take, List.length_drop, List.length_cons, List.length_nil]
    omega
  · simp at h
theorem cut_none (l : List UInt8) (h : (Lib.cut l [92]).2.2 = false) : (Lib.cut l [92]).1 = l := by
  unfold Lib.cut at h ⊢
  split at h
  · simp at h
  · rename_i h0
    rw [if_neg h0]
theorem encode_len (r : Int) : (Utf8.encode r).data.toList.length ≤ 4 := by
  unfold Utf8.encode
  dsimp only
  generalize (if Utf8.valid r = true then r.toNat else Utf8.runeError) = c
  repeat' split
  all_goals simp
theorem meant_less {l t u : List UInt8} (h : meantV l = some (t, u)) : u.length + 1 ≤ l.length ∧ t.length ≤ 4 := by
  unfold meantV at h
  split at h
  · rename_i h0
    have := prefix_len h0
    obtain ⟨rfl, rfl⟩ := Prod.mk.inj (Option.some.inj h)
    rw [List.length_drop]
    simp
    omega
  · split at h
    · rename_i h1
      split at h
      · obtain ⟨rfl, rfl⟩ := Prod.mk.inj (Option.some.inj h)
        rw [List.length_drop]
        simp
        omega
      · cases h
    · split at h
      · rename_i h2
        obtain ⟨rfl, rfl⟩ := Prod.mk.inj (Option.some.inj h)
        refine ⟨?_, encode_len _⟩
        have h3 := h2.1
        unfold Lib.cut at h3 ⊢
        split at h3
        · rename_i h4
          rw [if_pos h4]
          simp only [List.length_drop, List.length_cons, List.length_nil]
          cases l with
          | nil => simp [Lib.index] at h4
          | cons a l => simp only [List.length_cons]; omega
        · simp at h3
      · cases h
theorem unqGo_fuel : ∀ (n m : Nat) (l acc : List UInt8), l.length ≤ n → l.length ≤ m → unqGo n l acc = unqGo m l acc
  | 0, m, l, acc, h, _ => by
    obtain rfl : l = [] := List.eq_nil_of_length_eq_zero (by omega)
    cases m <;> simp [unqGo]
  | n + 1, 0, l, acc, _, h => by
    obtain rfl : l = [] := List.eq_nil_of_length_eq_zero (by omega)
    simp [unqGo]
  | n + 1, m + 1, l, acc, h, k => by
    unfold unqGo
    by_cases e : l = []
    · rw [if_pos e, if_pos e]
    · rw [if_neg e, if_neg e]
      by_cases c : (Lib.cut l [92]).2.2 = false
      · rw [if_pos c, if_pos c]
      · rw [if_neg c, if_neg c]
        have hc := cut_less l (by simpa using c)
        cases hm : meantV (Lib.cut l [92]).2.1 with
        | none => rfl
        | some x =>
          have hm' : meantV (Lib.cut l [92]).2.1 = some (x.1, x.2) := hm
          have := meant_less hm'
          exact unqGo_fuel n m _ _ (by omega) (by omega)
theorem unqGo_nil (n : Nat) (acc : List UInt8) : unqGo n [] acc = some acc := by cases n <;> simp [unqGo]
theorem unqGo_end (n : Nat) (l acc : List UInt8) (h : l ≠ []) (c : (Lib.cut l [92]).2.2 = false) : unqGo (n + 1) l acc = some (acc ++ (Lib.cut l [92]).1) := by
  rw [unqGo, if_neg h, if_pos c]
theorem unqGo_on (n : Nat) (l acc : List UInt8) (h : l ≠ []) (c : (Lib.cut l [92]).2.2 = true) : unqGo (n + 1) l acc = match meantV (Lib.cut l [92]).2.1 with | none => none | some x => unqGo n x.2 (acc ++ (Lib.cut l [92]).1 ++ x.1) := by
  rw [unqGo, if_neg h, if_neg (by simp [c])]
theorem str_end (B : Nat) (acc : List UInt8) (X : ByteArray) (hX : (⟨acc.toArray⟩ : ByteArray) = X) (W : World) (h : Lib.IsBuilderF 34 5 B B (Lib.byteCells acc) W) (hB : B ≤ W.heap.size) :
    Calls Tryd.prog 16 #[.pointer (some ⟨B, 0, none⟩)] W fun e w' => e = .returned (.string X) ∧ Below B W w' := by
  subst hX
  refine (Sh.Builder_String_any_k B B acc W h hB).mono ?_
  rintro e w' ⟨h1, _, h2, _⟩
  exact ⟨h1, h2⟩
theorem quote_end (X Y : ByteArray) (hY : (⟨(quoteL X.data.toList).toArray⟩ : ByteArray) = Y) (W : World) (hs : X.size ≤ 8796093022208) (hT : Tabs W) :
    Calls Tryd.prog 8 #[.string X] W fun e w' => e = .returned (.string Y) ∧ Below W.heap.size W w' := by
  subst hY
  exact quote_any X W hs hT
def txt : Value → ByteArray
  | .string s => s
  | _ => ⟨#[]⟩
set_option maxHeartbeats 8000000 in
set_option maxRecDepth 1000000 in
theorem unquote_any (s : ByteArray) (w : World) (hs : s.size < 4294967281) (hT : Tabs w) :
    Calls Tryd.prog 6 #[.string s] w fun e w' => e = .returned (.tuple #[.string (ba (unqV s.data.toList).1), .int .i64 (unqV s.data.toList).2]) ∧ Below w.heap.size w w' := by
  obtain ⟨V, hV⟩ : ∃ V, unqV s.data.toList = V := ⟨_, rfl⟩
  rw [hV]
  unfold unqV at hV
  have hss : s.data.toList.length = s.size := by rw [Array.length_toList]; rfl
  by_cases he : s.data.toList = [92, 95]
  · rw [if_pos he] at hV
    subst hV
    have e1 : s.toList = [92, 95] := by rw [toList_data]; exact he
    clear he
    go_enter Tryd.func6, Tryd.ntmps6
    go_wp2
    go_ret2
    exact ⟨rfl, Below.refl _ _⟩
  rw [if_neg he] at hV
  have e1 : ¬ s.toList = [92, 95] := by rw [toList_data]; exact he
  have e2 : (s.toList == [92, 95]) = false := by simpa using e1
  obtain ⟨R, hR⟩ : ∃ R, unqR s.data.toList = R := ⟨_, rfl⟩
  rw [hR] at hV
  have hR0 : ∀ n, s.data.toList.length ≤ n → unqGo n s.data.toList [] = R := fun n hn => by rw [← hR]; exact unqGo_fuel _ _ _ _ hn (Nat.le_refl _)
  have HR := Lib.hid hR0
  have HV := Lib.hid hV
  have HT := Lib.hid hT
  have HS := Lib.hid hss
  clear he hR hV hT hss hR0
  go_enter Tryd.func6, Tryd.ntmps6
  go_wp2
  go_loopw [5] (fun vl wr => ∃ (L : ByteArray) (acc : List UInt8), vl = .string L ∧ Lib.IsBuilderF 34 5 w.heap.size w.heap.size (Lib.byteCells acc) wr ∧ Below w.heap.size w wr ∧ acc.length + 4 * L.size ≤ 4 * s.size ∧ Hid (∀ n, L.data.toList.length ≤ n → unqGo n L.data.toList acc = R)) (fun vl _ => (txt vl).size)
  case atStart => exact ⟨s, [], rfl, Lib.IsBuilderF.of (Lib.fresh_isBuilder 34 5 w), (Below.refl _ w).alloc (Nat.le_refl _) _, by simp, HR⟩
  case round =>
    obtain ⟨L, acc, rfl, hI, hbw, hal, hrest⟩ := hrel
    have hLl : L.data.toList.length = L.size := by rw [Array.length_toList]; rfl
    by_cases hL : L.data.toList = []
    · have l1 : L.toList = [] := by rw [toList_data]; exact hL
      have l2 : R = some acc := by rw [← hrest.out _ (Nat.le_refl _), hL, unqGo_nil]
      clear hrest hL hLl
      have hV' : (if acc = [] then (([] : List UInt8), (2 : Int)) else if quoteL (acc) = s.data.toList then (acc, 0) else ([], 2)) = V := by
        have := HV.out
        rw [l2] at this
        exact this
      obtain ⟨X, hX⟩ : ∃ X : ByteArray, (⟨(acc).toArray⟩ : ByteArray) = X := ⟨_, rfl⟩
      have hXl : X.data.toList = acc := by rw [← hX]
      obtain ⟨Y, hY⟩ : ∃ Y : ByteArray, (⟨(quoteL X.data.toList).toArray⟩ : ByteArray) = Y := ⟨_, rfl⟩
      have hYl : Y.toList = quoteL (acc) := by rw [toList_data, ← hY, hXl]
      have hXt : X.toList = acc := by rw [toList_data]; exact hXl
      have hXs : X.size ≤ 8796093022208 := by
        have : X.size = (acc).length := by rw [← hXl, Array.length_toList]; rfl
        rw [this]
        omega
      have hXb : X = ba (acc) := by rw [← hXl]; exact (ba_data X).symm
      have HX := Lib.hid hX
      have HY := Lib.hid hY
      clear hX hY
      by_cases hA : acc = []
      · rw [if_pos hA] at hV'
        subst hV'
        rw [hA] at hXt
        have x2 : X.toList.isEmpty = true := by rw [hXt]; rfl
        clear hYl hXl hXb hXs
        go_wp2_with (first
          | (go_at_call 16; refine (str_end w.heap.size _ X HX.out _ hI hbw.size).mono ?_; rintro e W8 ⟨rfl, b8⟩))
        go_ret2
        exact ⟨rfl, hbw.trans b8⟩
      · rw [if_neg hA] at hV'
        have x1 : ¬ X.toList = [] := by rw [hXt]; exact hA
        have x2 : X.toList.isEmpty = false := by simpa using x1
        have hs1 : s.toList = s.data.toList := toList_data s
        rw [← hYl, ← hs1] at hV'
        by_cases hq : Y.toList = s.toList
        · have hq2 : (Y.toList == s.toList) = true := by simpa using hq
          rw [if_pos hq] at hV'
          subst hV'
          have HXb := Lib.hid hXb
          clear hXl hXt hYl hXb hs1
          go_wp2_with (first
            | (go_at_call 16; refine (str_end w.heap.size _ X HX.out _ hI hbw.size).mono ?_; rintro e W8 ⟨rfl, b8⟩)
            | (go_at_call 8; refine (quote_end X Y HY.out _ hXs (HT.out.below (hbw.trans b8))).mono ?_; rintro e W9 ⟨rfl, b9⟩))
          go_ret2
          exact ⟨by rw [HXb.out]; rfl, (hbw.trans b8).trans (b9.mono (hbw.trans b8).size)⟩
        · have hq2 : (Y.toList == s.toList) = false := by simpa using hq
          rw [if_neg hq] at hV'
          subst hV'
          clear hXl hXt hYl hXb hs1
          go_wp2_with (first
            | (go_at_call 16; refine (str_end w.heap.size _ X HX.out _ hI hbw.size).mono ?_; rintro e W8 ⟨rfl, b8⟩)
            | (go_at_call 8; refine (quote_end X Y HY.out _ hXs (HT.out.below (hbw.trans b8))).mono ?_; rintro e W9 ⟨rfl, b9⟩))
          all_goals first
            | (go_ret2; exact ⟨rfl, (hbw.trans b8).trans (b9.mono (hbw.trans b8).size)⟩)
            | exact absurd (by assumption) hq
            | (exfalso; simp_all)
    · have l1 : ¬ L.toList = [] := by rw [toList_data]; exact hL
      have l2 : L.toList.isEmpty = false := by rw [toList_data]; simpa using hL
      have hT1 : Tabs wr := HT.out.below hbw
      have HE := Lib.hid hT1.errs
      obtain ⟨M, hM⟩ := hT1.errs.ml
      have hcut := Sh.strings_Cut L ⟨#[92]⟩ M wr (by omega) hM
      rw [show (⟨#[92]⟩ : ByteArray).data.toList = [92] from rfl] at hcut
      have Hne := Lib.hid hL
      have HLl := Lib.hid hLl
      have hb0 : ∀ n, Below wr.heap.size wr (wr.drewN n) := fun n => ⟨rfl, rfl, rfl, Nat.le_refl _, fun _ _ => rfl⟩
      obtain ⟨z1, z2⟩ := cut_sizes L.data.toList [92]
      obtain ⟨A, hA'⟩ : ∃ A : ByteArray, (⟨(Lib.cut L.data.toList [92]).1.toArray⟩ : ByteArray) = A := ⟨_, rfl⟩
      obtain ⟨C, hC'⟩ : ∃ C : ByteArray, (⟨(Lib.cut L.data.toList [92]).2.1.toArray⟩ : ByteArray) = C := ⟨_, rfl⟩
      obtain ⟨F, hF'⟩ : ∃ F, (Lib.cut L.data.toList [92]).2.2 = F := ⟨_, rfl⟩
      have hAl : A.data.toList = (Lib.cut L.data.toList [92]).1 := by rw [← hA']
      have hCl : C.data.toList = (Lib.cut L.data.toList [92]).2.1 := by rw [← hC']
      have hAs : A.size = A.data.toList.length := by rw [Array.length_toList]; rfl
      have hCs : C.size = C.data.toList.length := by rw [Array.length_toList]; rfl
      rw [hA', hC', hF'] at hcut
      rw [← hAl, ← hLl.symm] at z1
      have hlenA : (Lib.byteCells acc).length + A.size ≤ 140737488355328 := by rw [Lib.byteCells_length]; omega
      have hcells : ∀ W, Lib.BuilderAtF 34 5 w.heap.size w.heap.size (.pointer (some ⟨w.heap.size, 0, none⟩)) (Lib.byteCells acc ++ Lib.strCells A) W → Lib.IsBuilderF 34 5 w.heap.size w.heap.size (Lib.byteCells (acc ++ A.data.toList)) W := by
        intro W h
        rw [Lib.byteCells_append]
        exact Or.inr h
      cases F with
      | false =>
        have l3 : R = some (acc ++ A.data.toList) := by
          obtain ⟨n, hn⟩ : ∃ n, L.data.toList.length = n + 1 := ⟨L.data.toList.length - 1, by have := List.length_pos_iff.2 hL; omega⟩
          rw [← hrest.out _ (Nat.le_of_eq hn), unqGo_end n _ _ hL hF', hAl]
        have l2 := l3
        clear hT1 hM hL hLl hA' hC' hF' hAl hCl hrest l3
        have hV' : (if acc ++ A.data.toList = [] then (([] : List UInt8), (2 : Int)) else if quoteL (acc ++ A.data.toList) = s.data.toList then (acc ++ A.data.toList, 0) else ([], 2)) = V := by
          have := HV.out
          rw [l2] at this
          exact this
        obtain ⟨X, hX⟩ : ∃ X : ByteArray, (⟨(acc ++ A.data.toList).toArray⟩ : ByteArray) = X := ⟨_, rfl⟩
        have hXl : X.data.toList = acc ++ A.data.toList := by rw [← hX]
        obtain ⟨Y, hY⟩ : ∃ Y : ByteArray, (⟨(quoteL X.data.toList).toArray⟩ : ByteArray) = Y := ⟨_, rfl⟩
        have hYl : Y.toList = quoteL (acc ++ A.data.toList) := by rw [toList_data, ← hY, hXl]
        have hXt : X.toList = acc ++ A.data.toList := by rw [toList_data]; exact hXl
        have hXs : X.size ≤ 8796093022208 := by
          have : X.size = (acc ++ A.data.toList).length := by rw [← hXl, Array.length_toList]; rfl
          rw [this]
          rw [List.length_append]; omega
        have hXb : X = ba (acc ++ A.data.toList) := by rw [← hXl]; exact (ba_data X).symm
        have HX := Lib.hid hX
        have HY := Lib.hid hY
        clear hX hY
        by_cases hA : acc ++ A.data.toList = []
        · rw [if_pos hA] at hV'
          subst hV'
          rw [hA] at hXt
          have x2 : X.toList.isEmpty = true := by rw [hXt]; rfl
          clear hYl hXl hXb hXs
          go_wp2_with (first
            | (go_at_call 13; refine hcut.mono ?_; rintro e W1 ⟨rfl, n, rfl⟩; have hI1 := builder_below hI (hb0 n))
            | (go_at_call 14; refine (Sh.Builder_WriteString_k w.heap.size w.heap.size (Lib.byteCells acc) A (wr.drewN n) hI1 hlenA (hbw.trans ((hb0 n).mono hbw.size)).size).mono ?_; rintro e W5 ⟨rfl, h5, b5, _⟩; have hI5 := hcells _ h5; have hb5 : Below w.heap.size w W5 := (hbw.trans ((hb0 n).mono hbw.size)).trans b5)
            | (go_at_call 16; refine (str_end w.heap.size _ X HX.out _ hI5 hb5.size).mono ?_; rintro e W8 ⟨rfl, b8⟩))
          go_ret2
          exact ⟨rfl, hb5.trans b8⟩
        · rw [if_neg hA] at hV'
          have x1 : ¬ X.toList = [] := by rw [hXt]; exact hA
          have x2 : X.toList.isEmpty = false := by simpa using x1
          have hs1 : s.toList = s.data.toList := toList_data s
          rw [← hYl, ← hs1] at hV'
          by_cases hq : Y.toList = s.toList
          · have hq2 : (Y.toList == s.toList) = true := by simpa using hq
            rw [if_pos hq] at hV'
            subst hV'
            have HXb := Lib.hid hXb
            clear hXl hXt hYl hXb hs1
            go_wp2_with (first
              | (go_at_call 13; refine hcut.mono ?_; rintro e W1 ⟨rfl, n, rfl⟩; have hI1 := builder_below hI (hb0 n))
              | (go_at_call 14; refine (Sh.Builder_WriteString_k w.heap.size w.heap.size (Lib.byteCells acc) A (wr.drewN n) hI1 hlenA (hbw.trans ((hb0 n).mono hbw.size)).size).mono ?_; rintro e W5 ⟨rfl, h5, b5, _⟩; have hI5 := hcells _ h5; have hb5 : Below w.heap.size w W5 := (hbw.trans ((hb0 n).mono hbw.size)).trans b5)
              | (go_at_call 16; refine (str_end w.heap.size _ X HX.out _ hI5 hb5.size).mono ?_; rintro e W8 ⟨rfl, b8⟩)
              | (go_at_call 8; refine (quote_end X Y HY.out _ hXs (HT.out.below (hb5.trans b8))).mono ?_; rintro e W9 ⟨rfl, b9⟩))
            go_ret2
            exact ⟨by rw [HXb.out]; rfl, (hb5.trans b8).trans (b9.mono (hb5.trans b8).size)⟩
          · have hq2 : (Y.toList == s.toList) = false := by simpa using hq
            rw [if_neg hq] at hV'
            subst hV'
            clear hXl hXt hYl hXb hs1
            go_wp2_with (first
              | (go_at_call 13; refine hcut.mono ?_; rintro e W1 ⟨rfl, n, rfl⟩; have hI1 := builder_below hI (hb0 n))
              | (go_at_call 14; refine (Sh.Builder_WriteString_k w.heap.size w.heap.size (Lib.byteCells acc) A (wr.drewN n) hI1 hlenA (hbw.trans ((hb0 n).mono hbw.size)).size).mono ?_; rintro e W5 ⟨rfl, h5, b5, _⟩; have hI5 := hcells _ h5; have hb5 : Below w.heap.size w W5 := (hbw.trans ((hb0 n).mono hbw.size)).trans b5)
              | (go_at_call 16; refine (str_end w.heap.size _ X HX.out _ hI5 hb5.size).mono ?_; rintro e W8 ⟨rfl, b8⟩)
              | (go_at_call 8; refine (quote_end X Y HY.out _ hXs (HT.out.below (hb5.trans b8))).mono ?_; rintro e W9 ⟨rfl, b9⟩))
            all_goals first
              | (go_ret2; exact ⟨rfl, (hb5.trans b8).trans (b9.mono (hb5.trans b8).size)⟩)
              | exact absurd (by assumption) hq
              | (exfalso; simp_all)
      | true =>
        have hlt := cut_less L.data.toList hF'
        rw [← hAl, ← hCl] at hlt
        have hR : (match meantV C.data.toList with | none => none | some x => unqGo (L.data.toList.length - 1) x.2 (acc ++ A.data.toList ++ x.1)) = R := by
          rw [← hrest.out (L.data.toList.length - 1 + 1) (by omega), unqGo_on _ _ _ hL hF', hAl, hCl]
        have hm := fun W hE => meant_walk C W (by omega) hE
        cases hmv : meantV C.data.toList with
        | none =>
          rw [hmv] at hR
          simp only [] at hR
          have hV' : (([] : List UInt8), (2 : Int)) = V := by
            have := HV.out
            rw [← hR] at this
            exact this
          subst hV'
          rw [hmv] at hm
          have hm : ∀ W, Errs W → Calls Tryd.prog 15 #[.string C] W fun e w' => (∃ t u, e = .returned (.tuple #[.string t, .string u, .bool false])) ∧ Below W.heap.size W w' := hm
          clear hT1 hM hL hLl hA' hC' hF' hAl hCl hrest hR hmv
          go_wp2_with (first
          | (go_at_call 13; refine hcut.mono ?_; rintro e W1 ⟨rfl, n, rfl⟩; have hI1 := builder_below hI (hb0 n))
          | (go_at_call_of 14 (Value.string A); refine (Sh.Builder_WriteString_k w.heap.size w.heap.size (Lib.byteCells acc) A (wr.drewN n) hI1 hlenA (hbw.trans ((hb0 n).mono hbw.size)).size).mono ?_; rintro e W5 ⟨rfl, h5, b5, _⟩; have hI5 := hcells _ h5; have hb5 : Below w.heap.size w W5 := (hbw.trans ((hb0 n).mono hbw.size)).trans b5)
          | (go_at_call 15; refine (hm _ (HT.out.below hb5).errs).mono ?_; rintro e W6 ⟨⟨t, u, rfl⟩, b6⟩))
          go_ret2
          exact ⟨rfl, hb5.trans (b6.mono hb5.size)⟩
        | some x =>
          rw [hmv] at hR
          simp only [] at hR
          rw [hmv] at hm
          obtain ⟨T, hTT⟩ : ∃ T, ba x.1 = T := ⟨_, rfl⟩
          obtain ⟨U, hU⟩ : ∃ U, ba x.2 = U := ⟨_, rfl⟩
          have hm : ∀ W, Errs W → Calls Tryd.prog 15 #[.string C] W fun e w' => e = .returned (.tuple #[.string (ba x.1), .string (ba x.2), .bool true]) ∧ Below W.heap.size W w' := hm
          rw [hTT, hU] at hm
          obtain ⟨k1, k2⟩ := meant_less (show meantV C.data.toList = some (x.1, x.2) from hmv)
          have hTl : T.data.toList = x.1 := by rw [← hTT, ba_list]
          have hUl : U.data.toList = x.2 := by rw [← hU, ba_list]
          have hTs : T.size = T.data.toList.length := by rw [Array.length_toList]; rfl
          have hUs : U.size = U.data.toList.length := by rw [Array.length_toList]; rfl
          rw [← hTl, ← hUl] at hR
          rw [← hUl] at k1
          rw [← hTl] at k2
          have hlenT : (Lib.byteCells (acc ++ A.data.toList)).length + T.size ≤ 140737488355328 := by rw [Lib.byteCells_length, List.length_append]; omega
          have hcellT : ∀ W, Lib.BuilderAtF 34 5 w.heap.size w.heap.size (.pointer (some ⟨w.heap.size, 0, none⟩)) (Lib.byteCells (acc ++ A.data.toList) ++ Lib.strCells T) W → Lib.IsBuilderF 34 5 w.heap.size w.heap.size (Lib.byteCells (acc ++ A.data.toList ++ T.data.toList)) W := by
            intro W h
            rw [Lib.byteCells_append]
            exact Or.inr h
          have hnext : ∀ n, U.data.toList.length ≤ n → unqGo n U.data.toList (acc ++ A.data.toList ++ T.data.toList) = R := fun n hn => by
            rw [← hR]
            exact unqGo_fuel _ _ _ _ hn (by omega)
          have HN := Lib.hid hnext
          have hbound : (acc ++ A.data.toList ++ T.data.toList).length + 4 * U.size ≤ 4 * s.size := by rw [List.length_append, List.length_append]; omega
          have hmeas : U.size < L.size := by omega
          clear hT1 hM hL hLl hA' hC' hF' hAl hCl hrest hR hmv hnext hTl hUl hTT hU
          go_wp2_with (first
          | (go_at_call 13; refine hcut.mono ?_; rintro e W1 ⟨rfl, n, rfl⟩; have hI1 := builder_below hI (hb0 n))
          | (go_at_call_of 14 (Value.string A); refine (Sh.Builder_WriteString_k w.heap.size w.heap.size (Lib.byteCells acc) A (wr.drewN n) hI1 hlenA (hbw.trans ((hb0 n).mono hbw.size)).size).mono ?_; rintro e W5 ⟨rfl, h5, b5, _⟩; have hI5 := hcells _ h5; have hb5 : Below w.heap.size w W5 := (hbw.trans ((hb0 n).mono hbw.size)).trans b5)
          | (go_at_call 15; refine (hm _ (HT.out.below hb5).errs).mono ?_; rintro e W6 ⟨rfl, b6⟩; have hI6 := builder_below hI5 b6; have hb6 := hb5.trans (b6.mono hb5.size))
          | (go_at_call_of 14 (Value.string T); refine (Sh.Builder_WriteString_k w.heap.size w.heap.size (Lib.byteCells (acc ++ A.data.toList)) T _ hI6 hlenT hb6.size).mono ?_; rintro e W7 ⟨rfl, h7, b7, _⟩; have hI7 := hcellT _ h7))
          go_roundw
          case rel => exact ⟨U, acc ++ A.data.toList ++ T.data.toList, rfl, hI7, hb6.trans b7, hbound, HN⟩
          case measure => exact hmeas
def label_Unquote.f (a0 : ByteArray) : Option (ByteArray × Int) := if a0.size < 4294967281 then some (ba (unqV a0.data.toList).1, (unqV a0.data.toList).2) else none
theorem label_Unquote.calls (a0 : ByteArray) (r1 : ByteArray) (r2 : Int) (w : World) (h : label_Unquote.f a0 = some (r1, r2)) (HT : Tabs w) :
    Calls Tryd.prog 6 #[.string a0] w fun e w' => e = .returned (.tuple #[.string r1, .int .i64 r2]) ∧ Below w.heap.size w w' := by
  unfold label_Unquote.f at h
  by_cases hs : a0.size < 4294967281
  · rw [if_pos hs] at h
    have e := Option.some.inj h
    have := unquote_any a0 w hs HT
    obtain ⟨rfl, rfl⟩ := Prod.mk.inj e
    exact this
  · rw [if_neg hs] at h
    exact absurd h (by simp)
end Go.Proofs.YtcgpaopbcclbiaaDoor.Lf
