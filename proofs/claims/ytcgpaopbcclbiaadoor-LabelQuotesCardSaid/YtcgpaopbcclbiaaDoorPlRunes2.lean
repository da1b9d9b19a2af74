/- Plain: the first runes of a text, texts joined, texts folded: what the decoder tells of them. -/
import Derived.Test.YtcgpaopbcclbiaaDoorLfQuote
import Derived.Lib.MapLaws
import Derived.Lib.ValidLaws
namespace Go.Proofs.YtcgpaopbcclbiaaDoor.Pl
open Go Go.Lib Go.Proofs.YtcgpaopbcclbiaaDoor.Lf
theorem dN_ext (n n' b0 b1 b2 b3 c0 c1 c2 c3 : Nat) (h0 : c0 = b0) (h1 : 2 ≤ (decodeN n b0 b1 b2 b3).2 → c1 = b1 ∧ 2 ≤ n') (h2 : 3 ≤ (decodeN n b0 b1 b2 b3).2 → c2 = b2 ∧ 3 ≤ n') (h3 : 4 ≤ (decodeN n b0 b1 b2 b3).2 → c3 = b3 ∧ 4 ≤ n')
    (hg : ¬ ((decodeN n b0 b1 b2 b3).1 = 65533 ∧ (decodeN n b0 b1 b2 b3).2 = 1)) : decodeN n' c0 c1 c2 c3 = decodeN n b0 b1 b2 b3 := by
  subst h0
  rcases decodeN_shape n c0 b1 b2 b3 with ⟨c, e⟩ | ⟨d1, d2, d3, cv, e⟩ | ⟨d1, d2, d3, d4, cv, cs, e⟩ | ⟨d1, d2, d3, d4, d5, cv, cw, e⟩ | e
  · rw [e]; unfold decodeN; rw [if_pos c]
  · rw [e] at h1 ⊢
    obtain ⟨rfl, hn⟩ := h1 (by simp)
    unfold decodeN
    rw [if_neg (by omega), if_pos ⟨d1, by omega, d3⟩, if_pos cv]
  · rw [e] at h1 h2 ⊢
    obtain ⟨rfl, hn⟩ := h1 (by simp)
    obtain ⟨rfl, hn2⟩ := h2 (by simp)
    unfold decodeN
    rw [if_neg (by omega), if_neg (by omega), if_pos ⟨d1, ⟨by omega, d3⟩, by omega, d4⟩, if_pos ⟨cv, by omega⟩]
  · rw [e] at h1 h2 h3 ⊢
    obtain ⟨rfl, hn⟩ := h1 (by simp)
    obtain ⟨rfl, hn2⟩ := h2 (by simp)
    obtain ⟨rfl, hn3⟩ := h3 (by simp)
    unfold decodeN
    rw [if_neg (by omega), if_neg (by omega), if_neg (by omega), if_pos ⟨d1, ⟨by omega, d3⟩, ⟨by omega, d4⟩, by omega, d5⟩, if_pos ⟨cv, by omega⟩]
  · exact absurd (by rw [e]; exact ⟨rfl, rfl⟩) hg
theorem dN_width (n b0 b1 b2 b3 : Nat) (hn : 1 ≤ n) : (decodeN n b0 b1 b2 b3).2 ≤ 4 ∧ (decodeN n b0 b1 b2 b3).2 ≤ n := by
  rcases decodeN_shape n b0 b1 b2 b3 with ⟨c, e⟩ | ⟨d1, d2, d3, cv, e⟩ | ⟨d1, d2, d3, d4, cv, cs, e⟩ | ⟨d1, d2, d3, d4, d5, cv, cw, e⟩ | e
  all_goals (rw [e]; simp only; omega)
theorem dN_bad (n n' b0 b1 b2 b3 c0 c1 c2 c3 : Nat) (hn : n' ≤ n) (hn1 : 1 ≤ n') (h0 : c0 = b0) (h1 : 2 ≤ n' → c1 = b1) (h2 : 3 ≤ n' → c2 = b2) (h3 : 4 ≤ n' → c3 = b3)
    (hb : decodeN n b0 b1 b2 b3 = (65533, 1)) : decodeN n' c0 c1 c2 c3 = (65533, 1) := by
  have hw := dN_width n' c0 c1 c2 c3 hn1
  by_cases hg : (decodeN n' c0 c1 c2 c3).1 = 65533 ∧ (decodeN n' c0 c1 c2 c3).2 = 1
  · exact Prod.ext hg.1 hg.2
  · have := dN_ext n' n c0 c1 c2 c3 b0 b1 b2 b3 h0.symm (fun h => ⟨(h1 (by omega)).symm, by omega⟩) (fun h => ⟨(h2 (by omega)).symm, by omega⟩) (fun h => ⟨(h3 (by omega)).symm, by omega⟩) hg
    rw [← this, hb]
theorem getD_take (l : List UInt8) (m i : Nat) (h : i < m) : (l.take m).getD i 0 = l.getD i 0 := by
  rw [List.getD_eq_getElem?_getD, List.getD_eq_getElem?_getD, List.getElem?_take, if_pos h]
theorem getD_app (s t : List UInt8) (i : Nat) (h : i < s.length) : (s ++ t).getD i 0 = s.getD i 0 := by
  rw [List.getD_eq_getElem?_getD, List.getD_eq_getElem?_getD, List.getElem?_append_left h]
theorem dec_take (l : List UInt8) (m : Nat) (hne : l ≠ []) (hm : (decodeL l).2 ≤ m) : decodeL (l.take m) = decodeL l := by
  have hl : 0 < l.length := List.length_pos_iff.2 hne
  have hw := decodeL_width l
  have hle := decodeL_le l hne
  have hlen : (l.take m).length = min m l.length := List.length_take
  rw [decodeL_N (l.take m), decodeL_N l] at *
  by_cases hb : (decodeN l.length (l.getD 0 0).toNat (l.getD 1 0).toNat (l.getD 2 0).toNat (l.getD 3 0).toNat).1 = 65533 ∧ (decodeN l.length (l.getD 0 0).toNat (l.getD 1 0).toNat (l.getD 2 0).toNat (l.getD 3 0).toNat).2 = 1
  · have e := Prod.ext (x := decodeN l.length (l.getD 0 0).toNat (l.getD 1 0).toNat (l.getD 2 0).toNat (l.getD 3 0).toNat) (y := (65533, 1)) hb.1 hb.2
    rw [e, hlen]
    exact dN_bad l.length _ _ _ _ _ _ _ _ _ (by omega) (by omega) (by rw [getD_take _ _ _ (by omega)]) (fun h => by rw [getD_take _ _ _ (by omega)]) (fun h => by rw [getD_take _ _ _ (by omega)]) (fun h => by rw [getD_take _ _ _ (by omega)]) e
  · rw [hlen]
    exact dN_ext l.length _ _ _ _ _ _ _ _ _ (by rw [getD_take _ _ _ (by omega)]) (fun h => ⟨by rw [getD_take _ _ _ (by omega)], by omega⟩) (fun h => ⟨by rw [getD_take _ _ _ (by omega)], by omega⟩) (fun h => ⟨by rw [getD_take _ _ _ (by omega)], by omega⟩) hb
theorem dec_append (s t : List UInt8) (hne : s ≠ []) (hg : ¬ ((decodeL s).1 = 65533 ∧ (decodeL s).2 = 1)) : decodeL (s ++ t) = decodeL s := by
  have hl : 0 < s.length := List.length_pos_iff.2 hne
  have hle := decodeL_le s hne
  have hlen : (s ++ t).length = s.length + t.length := List.length_append
  rw [decodeL_N (s ++ t), decodeL_N s] at *
  rw [hlen]
  exact dN_ext s.length _ _ _ _ _ _ _ _ _ (by rw [getD_app _ _ _ (by omega)]) (fun h => ⟨by rw [getD_app _ _ _ (by omega)], by omega⟩) (fun h => ⟨by rw [getD_app _ _ _ (by omega)], by omega⟩) (fun h => ⟨by rw [getD_app _ _ _ (by omega)], by omega⟩) hg
theorem cutN_le (k : Nat) : ∀ l : List UInt8, cutN k l ≤ l.length := by
  induction k with
  | zero => intro l; exact Nat.zero_le _
  | succ k ih =>
    intro l
    by_cases e : l = []
    · subst e; simp [cutN]
    · have := decodeL_le l e
      have h := ih (l.drop (decodeL l).2)
      rw [List.length_drop] at h
      rw [cutN, if_neg e]
      omega
theorem runes_take (k : Nat) : ∀ l : List UInt8, runes (l.take (cutN k l)) = (runes l).take k := by
  induction k with
  | zero => intro l; simp [cutN, runes_nil]
  | succ k ih =>
    intro l
    by_cases e : l = []
    · subst e; simp [runes_nil]
    · have hle := decodeL_le l e
      have hw := decodeL_width l
      have hl : 0 < l.length := List.length_pos_iff.2 e
      have hd := dec_take l ((decodeL l).2 + cutN k (l.drop (decodeL l).2)) e (by omega)
      have hne : l.take ((decodeL l).2 + cutN k (l.drop (decodeL l).2)) ≠ [] := by
        rw [ne_eq, List.take_eq_nil_iff]
        rintro (h | h)
        · omega
        · exact e h
      rw [cutN, if_neg e, runes_cons _ hne, hd, runes_cons l e, List.take_succ_cons, ← ih (l.drop (decodeL l).2)]
      congr 2
      rw [List.drop_take, Nat.add_sub_cancel_left]
theorem runes_drop (k : Nat) : ∀ l : List UInt8, runes (l.drop (cutN k l)) = (runes l).drop k := by
  induction k with
  | zero => intro l; simp [cutN]
  | succ k ih =>
    intro l
    by_cases e : l = []
    · subst e; simp [runes_nil]
    · rw [cutN, if_neg e, runes_cons l e, List.drop_succ_cons, ← ih (l.drop (decodeL l).2), List.drop_drop]
def good (r : Nat × Nat) : Bool := !(decide (r.1 = 65533 ∧ r.2 = 1))
theorem valid_runes (l : List UInt8) : validD l = (runes l).all good := by
  induction hn : l.length using Nat.strongRecOn generalizing l with
  | _ n ih =>
    by_cases e : l = []
    · subst e; rfl
    · have hs := drop_short l e
      rw [validD_step l e, runes_cons l e, List.all_cons]
      by_cases hb : (decodeL l).1 = 65533 ∧ (decodeL l).2 = 1
      · rw [if_pos hb]
        unfold good
        rw [decide_eq_true hb]; rfl
      · rw [if_neg hb, ih _ (by omega) (l.drop (decodeL l).2) rfl, show good (decodeL l) = true by unfold good; rw [decide_eq_false hb]; rfl, Bool.true_and]
theorem valid_take (k : Nat) (l : List UInt8) (h : validD l = true) : validD (l.take (cutN k l)) = true ∧ validD (l.drop (cutN k l)) = true := by
  rw [valid_runes] at h ⊢
  rw [valid_runes, runes_take, runes_drop]
  rw [List.all_eq_true] at h
  exact ⟨List.all_eq_true.2 fun x hx => h x (List.mem_of_mem_take hx), List.all_eq_true.2 fun x hx => h x (List.mem_of_mem_drop hx)⟩
theorem runes_append (s t : List UInt8) (hv : validD s = true) : runes (s ++ t) = runes s ++ runes t := by
  induction hn : s.length using Nat.strongRecOn generalizing s with
  | _ n ih =>
    by_cases e : s = []
    · subst e; rfl
    · have hs := drop_short s e
      rw [validD_step s e] at hv
      by_cases hb : (decodeL s).1 = 65533 ∧ (decodeL s).2 = 1
      · rw [if_pos hb] at hv; exact absurd hv (by decide)
      · rw [if_neg hb] at hv
        have hd := dec_append s t e hb
        have hle := decodeL_le s e
        rw [runes_cons (s ++ t) (by simp [e]), hd, runes_cons s e, List.cons_append, ← ih _ (by omega) _ hv rfl, List.drop_append, Nat.sub_eq_zero_of_le hle, List.drop_zero]
/-- Sums of widths. -/
theorem cutN_sum (k : Nat) : ∀ l : List UInt8, cutN k l = (((runes l).take k).map (·.2)).sum := by
  induction k with
  | zero => intro l; simp [cutN]
  | succ k ih =>
    intro l
    by_cases e : l = []
    · subst e; simp [runes_nil, cutN]
    · rw [cutN, if_neg e, runes_cons l e, List.take_succ_cons, List.map_cons, List.sum_cons, ih]
theorem cutN_mono (l : List UInt8) (j k : Nat) (h : j ≤ k) : cutN j l ≤ cutN k l := by
  rw [cutN_sum, cutN_sum]
  obtain ⟨d, rfl⟩ := Nat.exists_eq_add_of_le h
  rw [List.take_add, List.map_append, List.sum_append]
  omega
theorem first_first (l : List UInt8) (a b : Int) : firstL (firstL l a) b = firstL l (min a b) := by
  unfold firstL
  have e : cutN b.toNat (l.take (cutN a.toNat l)) = cutN (min a b).toNat l := by
    rw [cutN_sum, runes_take, List.take_take, cutN_sum]
    congr 3
    omega
  rw [e, List.take_take]
  congr 1
  have := cutN_mono l (min a b).toNat a.toNat (by omega)
  omega
/-- A text of plain signs. -/
def plainB (c : UInt8) : Prop := 33 ≤ c.toNat ∧ c.toNat ≤ 126 ∧ c.toNat ≠ 92
theorem dec_plain (c : UInt8) (l : List UInt8) (h : c.toNat < 128) : decodeL (c :: l) = (c.toNat, 1) := by
  rw [decodeL_N]
  unfold decodeN
  rw [if_pos (by simpa using h)]
  rfl
theorem runes_plain : ∀ l : List UInt8, (∀ c ∈ l, plainB c) → runes l = l.map fun c => (c.toNat, 1)
  | [], _ => rfl
  | c :: l, h => by
    have hc := h c (by simp)
    unfold plainB at hc
    rw [runes_cons _ (by simp), dec_plain c l (by omega), List.map_cons]
    simp only [List.drop_succ_cons, List.drop_zero]
    rw [runes_plain l (fun x hx => h x (by simp [hx]))]
theorem quoteR_plain : ∀ l : List UInt8, (∀ c ∈ l, plainB c) → quoteR l = l
  | [], _ => rfl
  | c :: l, h => by
    have hc := h c (by simp)
    unfold plainB at hc
    rw [quoteR_cons _ (by simp)]
    have hd := dec_plain c l (by omega)
    unfold piece
    rw [hd, if_neg (by simp only; omega), if_neg (by simp only; omega), if_pos (by simp only; omega)]
    simp only [List.drop_succ_cons, List.drop_zero]
    rw [quoteR_plain l (fun x hx => h x (by simp [hx]))]
    unfold encodeRune
    rw [encodeRuneZ_one (by omega) (by omega)]
    simp
theorem valid_plain (l : List UInt8) (h : ∀ c ∈ l, plainB c) : validD l = true := by
  rw [valid_runes, runes_plain l h, List.all_map, List.all_eq_true]
  intro c hc
  have := h c hc
  unfold plainB at this
  show good (c.toNat, 1) = true
  unfold good
  rw [decide_eq_false (by simp only; omega)]; rfl
theorem right_plain (l : List UInt8) (h : ∀ c ∈ l, plainB c) : rightB l = (!l.isEmpty && decide (l.length ≤ 24)) := by
  unfold rightB
  rw [valid_plain l h, runes_plain l h, List.all_map, List.length_map]
  have e1 : l.all (fine ∘ fun c => (c.toNat, 1)) = true := by
    rw [List.all_eq_true]
    intro c hc
    have := h c hc
    unfold plainB at this
    show fine (c.toNat, 1) = true
    unfold fine
    rw [decide_eq_true (by simp only; omega)]
    simp
    omega
  rw [e1]
  cases l with
  | nil => rfl
  | cons a r =>
    have h1 := h a (by simp)
    have h2 := h ((a :: r).getLastD 0) (by rw [List.getLastD_eq_getLast?, List.getLast?_eq_some_getLast (by simp)]; exact List.getLast_mem _)
    unfold plainB at h1 h2
    have k1 : (((a :: r).headD 0).toNat == 32) = false := by show (a.toNat == 32) = false; simp; omega
    have k2 : (((a :: r).getLastD 0).toNat == 32) = false := by simp only [beq_eq_false_iff_ne]; omega
    rw [k1, k2]
    simp
end Go.Proofs.YtcgpaopbcclbiaaDoor.Pl
