-- Packed by pack.py, a program of this session, out of texts of this claim.
import Derived.Test.YtjoaiolacalemaaDoorClDateReadsLfRead
import Derived.Test.YtjoaiolacalemaaDoorPlSplit
import Derived.Test.YtjoaiolacalemaaDoorClDateReads2
import Derived.Test.YtjoaiolacalemaaDoorClDateReads1
import Derived.Test.YtjoaiolacalemaaDoorClDateReads3
section
/- date.Read and the document's answer, in plain words: of a stamp, and of any text. -/




namespace Go.Proofs.YtjoaiolacalemaaDoor.Pu
set_option maxRecDepth 20000
open Go Go.Lib Go.RowKit Go.Proofs.YtjoaiolacalemaaDoor.Pl Go.Proofs.YtjoaiolacalemaaDoor.Lf Go.Proofs.YtjoaiolacalemaaDoor.Fn Go.Proofs.YtjoaiolacalemaaDoorW.PrintWords
theorem puGo_digW (mx w : Nat) : ∀ (n : Nat) (r : List UInt8) (a : Nat), n < 10 ^ w → a * 10 ^ w + n ≤ mx → puGo 10 mx (digW w n ++ r) a = puGo 10 mx r (a * 10 ^ w + n) := by
  induction w with
  | zero => intro n r a h _; have : n = 0 := by omega
            subst this; simp [digW]
  | succ w ih =>
    intro n r a h hm
    rw [Nat.pow_succ] at h
    have h10 : n % 10 < 10 := Nat.mod_lt _ (by decide)
    have e : (a * 10 ^ w + n / 10) * 10 + n % 10 = a * 10 ^ (w + 1) + n := by
      rw [Nat.pow_succ, ← Nat.mul_assoc]
      generalize a * 10 ^ w = q
      omega
    rw [digW, List.append_assoc, ih (n / 10) _ a (by omega) (by omega)]
    show puGo 10 mx (UInt8.ofNat (48 + n % 10) :: r) _ = _
    have hv : digV (UInt8.ofNat (48 + n % 10)) = n % 10 := by
      unfold digV
      rw [dig_toNat, if_pos (by omega)]
      omega
    rw [puGo, hv, if_neg (by omega), e, if_neg (by omega)]
theorem num_pad (n d : Nat) (h : n ≤ 281474976710655) : isNum (ba (padN n d)) ∧ num1 (ba (padN n d)) = n := by
  have e : puL 10 281474976710655 (ba (padN n d)).data.toList = (n, 0) := by
    rw [ba_list]
    unfold puL
    have hne : padN n d ≠ [] := fun e => by
      have := padN_length n d
      rw [e, List.length_nil] at this
      have := nDigits_pos n
      omega
    rw [if_neg hne, padN_eq]
    have hlt : n < 10 ^ max d (nDigits n) := Nat.lt_of_lt_of_le (lt_pow_nDigits n) (Nat.pow_le_pow_right (by decide) (Nat.le_max_right _ _))
    have h2 := puGo_digW 281474976710655 (max d (nDigits n)) n [] 0 hlt (by omega)
    rw [List.append_nil, Nat.zero_mul, Nat.zero_add] at h2
    rw [h2]
    rfl
  unfold isNum num1
  rw [e]
  exact ⟨rfl, rfl⟩
theorem nums_three (a b c da db dc : Nat) (ha : a ≤ 281474976710655) (hb : b ≤ 281474976710655) (hc : c ≤ 281474976710655) : numsL [ba (padN a da), ba (padN b db), ba (padN c dc)] = some [a, b, c] := by
  obtain ⟨p1, q1⟩ := num_pad a da ha
  obtain ⟨p2, q2⟩ := num_pad b db hb
  obtain ⟨p3, q3⟩ := num_pad c dc hc
  rw [numsL_good _ p1, numsL_good _ p2, numsL_good _ p3, q1, q2, q3]
  rfl
/-- The year, month and day of a day in range: in their bounds. -/
theorem civ_range (day t : Nat) (ht : t = day + 719468) (h : day ≤ 281474976710656) (y m d : Nat) (hc : civN t = (y, m, d)) : 1970 ≤ y ∧ y ≤ 1000000000000 ∧ valid y m d ∧ dayOf y m d = t + 61 ∧ dayS (y : Int) (m : Int) (d : Int) = ((day : Int), true) := by
  obtain ⟨hv, hd⟩ := civ_ok t
  rw [hc] at hv hd
  simp only [] at hv hd
  have e : dayOf y m d - 719529 = day := by omega
  have h1 : 1970 ≤ y := by
    have h70 : dayOf 1970 1 1 = 719529 := by
      unfold dayOf
      rw [yday_1970, show mday (leapN 1970) 1 = 0 from rfl]
    exact year_le (y := 1970) (m := 1) (d := 1) ⟨by decide, by decide, by decide, by decide⟩ hv (by rw [h70]; omega)
  have h2 : y ≤ 1000000000000 := by
    rcases Nat.lt_or_ge 1000000000000 y with hlt | hge
    · have := day_far y m d hlt
      rw [e] at this
      unfold dayF at this
      rw [if_neg (by omega)] at this
      cases this
    · exact hge
  refine ⟨h1, h2, hv, hd, ?_⟩
  unfold dayS
  obtain ⟨v1, v2, v3, v4⟩ := hv
  rw [leapI_nat, longM_nat, if_neg (by rintro (h | h | h | h) <;> omega)]
  simp only [Int.toNat_natCast]
  rw [e]
  unfold dayF
  rw [if_neg (by omega)]
theorem stamp_shape (S t : Nat) (ht : t = S / 86400 + 719468) (y m d : Nat) (hc : civN t = (y, m, d)) :
    stampL S = (padN y 4 ++ 45 :: (padN m 2 ++ 45 :: padN d 2)) ++ 32 :: (padN (S % 86400 / 3600) 2 ++ 58 :: (padN (S % 86400 / 60 % 60) 2 ++ 58 :: padN (S % 86400 % 60) 2)) := by
  unfold stampL
  rw [← ht, hc]
  unfold dateL clockL
  simp only [List.append_assoc, List.cons_append, List.nil_append]
theorem civ_parts (t : Nat) : ∃ y m d, civN t = (y, m, d) := by
  obtain ⟨y, m, d⟩ := civN t
  exact ⟨y, m, d, rfl⟩
theorem sec_sum (S : Nat) (h : S < 18446744073709551616) : secOf (S / 86400) (S % 86400 / 3600) (S % 86400 / 60 % 60) (S % 86400 % 60) = S := by
  unfold secOf
  have : S / 86400 * 86400 + (3600 * (S % 86400 / 3600) + 60 * (S % 86400 / 60 % 60) + S % 86400 % 60) = S := by omega
  rw [this, Nat.mod_eq_of_lt h]
/-- A stamp, read. -/
theorem readV_stamp (S : Nat) (h : S < 18446744073709551616) : readV (ba (stampL S)) = ((S : Int), 0) := by
  obtain ⟨t, ht⟩ : ∃ t, t = S / 86400 + 719468 := ⟨_, rfl⟩
  obtain ⟨y, m, d, hc⟩ := civ_parts t
  have hs := stamp_shape S t ht y m d hc
  obtain ⟨c1, c2, c3, c4, c5⟩ := civ_bounds t
  obtain ⟨r1, r2, _, _, r3⟩ := civ_range (S / 86400) t ht (by omega) y m d hc
  rw [hc] at c1 c2 c3 c4
  simp only [] at c1 c2 c3 c4
  clear c5
  obtain ⟨g1, g2, g3⟩ := small_facts S
  have n45 : ∀ n w, (45 : UInt8) ∉ padN n w := fun n w => padN_ne n w 45 (by decide)
  have n58 : ∀ n w, (58 : UInt8) ∉ padN n w := fun n w => padN_ne n w 58 (by decide)
  have n32 : ∀ n w, (32 : UInt8) ∉ padN n w := fun n w => padN_ne n w 32 (by decide)
  have hcut := cut_one 32 (padN y 4 ++ 45 :: (padN m 2 ++ 45 :: padN d 2)) (padN (S % 86400 / 3600) 2 ++ 58 :: (padN (S % 86400 / 60 % 60) 2 ++ 58 :: padN (S % 86400 % 60) 2)) (by
    simp only [List.mem_append, List.mem_cons, not_or]
    exact ⟨n32 _ _, by decide, n32 _ _, by decide, n32 _ _⟩)
  have hD : datePart (ba (stampL S)) = ba (padN y 4 ++ 45 :: (padN m 2 ++ 45 :: padN d 2)) := by
    unfold datePart; rw [ba_list, hs, hcut]; rfl
  have hC : clockPart (ba (stampL S)) = ba (padN (S % 86400 / 3600) 2 ++ 58 :: (padN (S % 86400 / 60 % 60) 2 ++ 58 :: padN (S % 86400 % 60) 2)) := by
    unfold clockPart; rw [ba_list, hs, hcut]; rfl
  unfold readV
  rw [hD, hC]
  have w1 : wordsL (ba (padN y 4 ++ 45 :: (padN m 2 ++ 45 :: padN d 2))) ⟨#[45]⟩ = [ba (padN y 4), ba (padN m 2), ba (padN d 2)] := split_three 45 _ _ _ (n45 _ _) (n45 _ _) (n45 _ _)
  have w2 : wordsL (ba (padN (S % 86400 / 3600) 2 ++ 58 :: (padN (S % 86400 / 60 % 60) 2 ++ 58 :: padN (S % 86400 % 60) 2))) ⟨#[58]⟩ = [ba (padN (S % 86400 / 3600) 2), ba (padN (S % 86400 / 60 % 60) 2), ba (padN (S % 86400 % 60) 2)] := split_three 58 _ _ _ (n58 _ _) (n58 _ _) (n58 _ _)
  rw [w1, w2, nums_three _ _ _ _ _ _ (by omega) (by omega) (by omega), nums_three _ _ _ _ _ _ (by omega) (by omega) (by omega)]
  show readThree _ y m d _ _ _ = _
  unfold readThree
  have r3' : dayS (y : Int) (m : Int) (d : Int) = (((S / 86400 : Nat) : Int), true) := r3
  have hsum := sec_sum S h
  have b1 : ((S / 86400 : Nat) : Int) ≤ 213503982334601 := by omega
  rw [r3']
  simp only [Int.toNat_natCast]
  rw [hsum, ba_list, if_pos rfl, if_neg (by rintro (h | h | h | h | h) <;> first | (cases h; done) | omega)]
end Go.Proofs.YtjoaiolacalemaaDoor.Pu
end
section
/- The document's reading of a text, in plain words; and that both readings are one: DateReads. -/


namespace Go.Proofs.YtjoaiolacalemaaDoor.Pu
set_option maxRecDepth 20000
open Go Go.Lib Go.RowKit Go.Proofs.YtjoaiolacalemaaDoor.Pl Go.Proofs.YtjoaiolacalemaaDoor.Lf Go.Proofs.YtjoaiolacalemaaDoor.Fn Go.Proofs.YtjoaiolacalemaaDoorW.PrintWords
theorem bt_ba (l : List UInt8) (i : Nat) (h : i < l.length) : bt (ba l) (i : Int) = ((l[i]'h).toNat : Int) := by
  unfold bt
  have h2 : (i : Int).toNat < (ba l).size := by rw [ba_size]; simpa using h
  rw [dif_pos h2]
  have : (ba l)[(i : Int).toNat]'h2 = l[i]'h := by
    show (ba l).data[(i : Int).toNat]'h2 = _
    simp [ba]
  rw [this]
theorem number_l0 (k : Nat) (x0 : ByteArray) (x3 x4 : Int) : rootcellarref15_number.l0 (k + 1) x0 x3 x4 = if x4 < (x0.size : Int) then (if 0 ≤ x4 then (if (bt x0 x4) < 48 then (some (-1)) else (if (bt x0 x4) > 57 then (some (-1)) else (rootcellarref15_number.l0 k x0 (wrap64 ((wrap64 (10 * x3)) + (((bt x0 x4) - 48) % 256))) (wrap64 (x4 + 1))))) else (none)) else (some x3) := rfl
theorem number_l (L : List UInt8) (hL : L.length ≤ 18) : ∀ (j i : Nat), i + j = L.length → ∀ n : Nat, n < 10 ^ i →
    Ev (fun k => rootcellarref15_number.l0 k (ba L) (n : Int) (i : Int)) (numGo (L.drop i) (n : Int)) := by
  intro j
  induction j with
  | zero =>
    intro i hi n hn
    rw [List.drop_of_length_le (by omega)]
    refine Ev.step (f := fun _ => some (n : Int)) (fun k => ?_) (Ev.now _)
    rw [number_l0, ba_size, if_neg (by omega)]
  | succ j ih =>
    intro i hi n hn
    have hlt : i < L.length := by omega
    have hp : 10 ^ i ≤ 10 ^ 17 := Nat.pow_le_pow_right (by decide) (by omega)
    have hb := bt_ba L i hlt
    rw [List.drop_eq_getElem_cons hlt]
    have hc := (L[i]'hlt).toNat_lt
    obtain ⟨c, hcv⟩ : ∃ c, c = (L[i]'hlt).toNat := ⟨_, rfl⟩
    unfold numGo
    rw [← hcv] at hb hc ⊢
    by_cases c1 : c < 48
    · rw [if_pos c1]
      refine Ev.step (f := fun _ => some (-1)) (fun k => ?_) (Ev.now _)
      rw [number_l0, ba_size, if_pos (by omega), if_pos (by omega), hb, if_pos (by omega)]
    by_cases c2 : 57 < c
    · rw [if_neg c1, if_pos c2]
      refine Ev.step (f := fun _ => some (-1)) (fun k => ?_) (Ev.now _)
      rw [number_l0, ba_size, if_pos (by omega), if_pos (by omega), hb, if_neg (by omega), if_pos (by omega)]
    rw [if_neg c1, if_neg c2]
    have hp2 : n < 100000000000000000 := Nat.lt_of_lt_of_le hn hp
    have h := ih (i + 1) (by omega) (10 * n + (c - 48)) (by rw [Nat.pow_succ]; clear hp hp2; omega)
    clear hp hn ih
    have f1 : (i : Int) < (L.length : Int) := by omega
    have f2 : (0 : Int) ≤ (i : Int) := by omega
    have f3 : ¬ (c : Int) < 48 := by omega
    have f4 : ¬ (c : Int) > 57 := by omega
    have f5 : 10 * n < 9223372036854775808 := by omega
    have f6 : 10 * n + (c - 48) < 9223372036854775808 := by omega
    have f7 : i < 9223372036854775807 := by omega
    have f8 : 10 * (n : Int) + ((c - 48 : Nat) : Int) = ((10 * n + (c - 48) : Nat) : Int) := by omega
    have e2 : ((c : Int) - 48) % 256 = ((c - 48 : Nat) : Int) := by omega
    have e1 : wrap64 (10 * (n : Int)) = ((10 * n : Nat) : Int) := wm 10 n f5
    have e3 : wrap64 (((10 * n : Nat) : Int) + ((c - 48 : Nat) : Int)) = ((10 * n + (c - 48) : Nat) : Int) := wa _ _ f6
    have e4 : wrap64 ((i : Int) + 1) = ((i + 1 : Nat) : Int) := wa1 i (Nat.add_lt_add_right f7 1)
    rw [f8]
    refine Ev.step (fun k => ?_) h
    rw [number_l0, ba_size, if_pos f1, if_pos f2, hb, if_neg f3, if_neg f4, e1, e2, e3, e4]
theorem number_ev (L : List UInt8) (hL : L.length ≤ 18) : Ev (fun k => rootcellarref15_number.f k (ba L)) (numGo L 0) :=
  Ev.congr (fun _ => rfl) (number_l L hL L.length 0 (by omega) 0 (by decide))
/-- The document's answer, plainly. -/
def refF (L : List UInt8) (y m d h i t : Int) : Int × Int :=
  if (dayS y m d).2 = false ∨ 213503982334601 < (dayS y m d).1 ∨ h < 0 ∨ i < 0 ∨ t < 0 ∨ 23 < h ∨ 59 < i ∨ 59 < t then (0, 2)
  else if stampL (secOf (dayS y m d).1.toNat h.toNat i.toNat t.toNat) = L then (((secOf (dayS y m d).1.toNat h.toNat i.toNat t.toNat : Nat) : Int), 0) else (0, 2)
def refA (L : List UInt8) (a : Nat) : Int × Int := refF L (numGo (L.take a) 0) (numGo ((L.drop (a + 1)).take 2) 0) (numGo ((L.drop (a + 4)).take 2) 0) (numGo ((L.drop (a + 7)).take 2) 0) (numGo ((L.drop (a + 10)).take 2) 0) (numGo (L.drop (a + 13)) 0)
def refV (L : List UInt8) : Int × Int := if L.length < 19 ∨ 32 < L.length then (0, 2) else refA L (L.length - 15)
theorem j1_no (x0 : ByteArray) (a b c d : Int) : Ev (fun k => rootcellarref15_Read.j1 k x0 a b c d true) (0, 2) := Ev.step (f := fun _ => some (0, 2)) (fun _ => rfl) (Ev.now _)
theorem j1_yes (L : List UInt8) (D h i t : Nat) (hD : D ≤ 213503982334601) (hh : h ≤ 23) (hi : i ≤ 59) (ht : t ≤ 59) :
    Ev (fun k => rootcellarref15_Read.j1 k (ba L) (D : Int) (h : Int) (i : Int) (t : Int) false) (if stampL (secOf D h i t) = L then (((secOf D h i t : Nat) : Int), 0) else (0, 2)) := by
  have hS : IntKind.u64.wrap ((IntKind.u64.wrap ((IntKind.u64.wrap (D : Int)) * 86400)) + (IntKind.u64.wrap (wrap64 ((wrap64 ((wrap64 (3600 * (h : Int))) + (wrap64 (60 * (i : Int))))) + (t : Int))))) = ((secOf D h i t : Nat) : Int) := by
    have b1 : 3600 * h < 9223372036854775808 := by omega
    have b2 : 60 * i < 9223372036854775808 := by omega
    have b3 : 3600 * h + 60 * i < 9223372036854775808 := by omega
    have b4 : 3600 * h + 60 * i + t < 9223372036854775808 := by omega
    have b5 : D < 18446744073709551616 := by omega
    have b6 : D * 86400 < 18446744073709551616 := by omega
    have b7 : 3600 * h + 60 * i + t < 18446744073709551616 := by omega
    have b8 : ((D : Int) * 86400 + (3600 * (h : Int) + 60 * (i : Int) + (t : Int))) = (((D * 86400 : Nat) : Int) + ((3600 * h + 60 * i + t : Nat) : Int)) := by omega
    have e8 := Lf.sec_wrap D h i t
    rw [b8] at e8
    have e1 : wrap64 (3600 * (h : Int)) = ((3600 * h : Nat) : Int) := wm 3600 h b1
    have e2 : wrap64 (60 * (i : Int)) = ((60 * i : Nat) : Int) := wm 60 i b2
    have e3 : wrap64 (((3600 * h : Nat) : Int) + ((60 * i : Nat) : Int)) = ((3600 * h + 60 * i : Nat) : Int) := wa _ _ b3
    have e4 : wrap64 (((3600 * h + 60 * i : Nat) : Int) + (t : Int)) = ((3600 * h + 60 * i + t : Nat) : Int) := wa _ _ b4
    have e5 : IntKind.u64.wrap (D : Int) = (D : Int) := u64n D b5
    have e6 : IntKind.u64.wrap ((D : Int) * 86400) = ((D * 86400 : Nat) : Int) := u64n (D * 86400) b6
    have e7 : IntKind.u64.wrap ((3600 * h + 60 * i + t : Nat) : Int) = ((3600 * h + 60 * i + t : Nat) : Int) := u64n _ b7
    rw [e1, e2, e3, e4, e5, e6, e7]
    exact e8
  have hSb : secOf D h i t < 18446744073709551616 := Nat.mod_lt _ (by decide)
  generalize secOf D h i t = S at hS hSb
  have hst := ref_stamp S hSb
  refine Ev.step (fun _ => by simp only [rootcellarref15_Read.j1]; rw [hS]) (Ev.congr (fun _ => if_neg (by decide)) (Ev.bind hst ?_))
  rw [ba_toList, ba_toList]
  by_cases hq : stampL S = L
  · exact Ev.congr (f := fun _ => some ((S : Int), 0)) (fun k => by rw [if_pos hq]) (by rw [if_pos hq]; exact Ev.now _)
  · exact Ev.congr (f := fun _ => some ((0 : Int), (2 : Int))) (fun k => by rw [if_neg hq]) (by rw [if_neg hq]; exact Ev.now _)
set_option maxHeartbeats 1000000 in
theorem ref_read (L : List UInt8) : Ev (fun k => rootcellarref15_Read.f k (ba L)) (refV L) := by
  have no : Ev (fun k => rootcellarref15_Read.j0 k (ba L) ((ba L).size : Int) true) (0, 2) := Ev.step (f := fun _ => some (0, 2)) (fun _ => rfl) (Ev.now _)
  unfold refV
  by_cases c1 : L.length < 19
  · rw [if_pos (Or.inl c1)]
    exact Ev.congr (fun k => by unfold rootcellarref15_Read.f; rw [if_pos (by rw [ba_size]; omega)]) no
  by_cases c2 : 32 < L.length
  · rw [if_pos (Or.inr c2)]
    exact Ev.congr (fun k => by unfold rootcellarref15_Read.f; rw [if_neg (by rw [ba_size]; omega), decide_eq_true (by rw [ba_size]; omega)]) no
  rw [if_neg (by omega)]
  refine Ev.congr (f := fun k => rootcellarref15_Read.j0 k (ba L) ((ba L).size : Int) false) (fun k => by unfold rootcellarref15_Read.f; rw [if_neg (by rw [ba_size]; omega), decide_eq_false (by rw [ba_size]; omega)]) ?_
  obtain ⟨a, ha⟩ : ∃ a, a = L.length - 15 := ⟨_, rfl⟩
  have hn : L.length = a + 15 := by omega
  have hsz : (ba L).size = a + 15 := by rw [ba_size]; exact hn
  rw [← ha]
  unfold refA
  have p0 : ∀ x : Nat, (0 ≤ (x : Int)) = True := fun x => eq_true (Int.natCast_nonneg x)
  have q : ∀ x y : Nat, x ≤ y → (((a + x : Nat) : Int) ≤ ((a + y : Nat) : Int)) = True := fun x y h => eq_true (by omega)
  have q0 : ((a : Int) ≤ ((a + 15 : Nat) : Int)) = True := eq_true (by omega)
  have xe : ∀ x y m : Nat, x + m = y → (ba L).extract (a + x) (a + y) = ba ((L.drop (a + x)).take m) := fun x y m h => by rw [ba_extract]; congr 2; omega
  have x0 : (ba L).extract 0 a = ba (L.take a) := ba_take L a
  have xz : (ba L).extract (a + 13) (a + 15) = ba (L.drop (a + 13)) := by rw [← hsz]; exact ba_drop L _
  have ln : ∀ i m : Nat, m ≤ 18 → ((L.drop i).take m).length ≤ 18 := fun i m h => by rw [List.length_take]; omega
  have n0 := number_ev (L.take a) (by rw [List.length_take]; omega)
  have n1 := number_ev ((L.drop (a + 1)).take 2) (ln _ _ (by omega))
  have n2 := number_ev ((L.drop (a + 4)).take 2) (ln _ _ (by omega))
  have n3 := number_ev ((L.drop (a + 7)).take 2) (ln _ _ (by omega))
  have n4 := number_ev ((L.drop (a + 10)).take 2) (ln _ _ (by omega))
  have n5 := number_ev (L.drop (a + 13)) (by rw [List.length_drop]; omega)
  have h15 : ((a + 15 : Nat) : Int) - 15 = ((a : Nat) : Int) := by omega
  have hb : ∀ x : Nat, x ≤ 13 → a + x < 9223372036854775808 := fun x hx => by omega
  have w15 : wrap64 (((a + 15 : Nat) : Int) - 15) = (a : Int) := by rw [h15]; exact wN a (hb 0 (by decide))
  have w1 : wrap64 ((a : Int) + 1) = ((a + 1 : Nat) : Int) := wa a 1 (hb 1 (by decide))
  have w3 : wrap64 ((a : Int) + 3) = ((a + 3 : Nat) : Int) := wa a 3 (hb 3 (by decide))
  have w4 : wrap64 ((a : Int) + 4) = ((a + 4 : Nat) : Int) := wa a 4 (hb 4 (by decide))
  have w6 : wrap64 ((a : Int) + 6) = ((a + 6 : Nat) : Int) := wa a 6 (hb 6 (by decide))
  have w7 : wrap64 ((a : Int) + 7) = ((a + 7 : Nat) : Int) := wa a 7 (hb 7 (by decide))
  have w9 : wrap64 ((a : Int) + 9) = ((a + 9 : Nat) : Int) := wa a 9 (hb 9 (by decide))
  have w10 : wrap64 ((a : Int) + 10) = ((a + 10 : Nat) : Int) := wa a 10 (hb 10 (by decide))
  have w12 : wrap64 ((a : Int) + 12) = ((a + 12 : Nat) : Int) := wa a 12 (hb 12 (by decide))
  have w13 : wrap64 ((a : Int) + 13) = ((a + 13 : Nat) : Int) := wa a 13 (hb 13 (by decide))
  generalize numGo (L.take a) 0 = y at n0 ⊢
  generalize numGo ((L.drop (a + 1)).take 2) 0 = m at n1 ⊢
  generalize numGo ((L.drop (a + 4)).take 2) 0 = d at n2 ⊢
  generalize numGo ((L.drop (a + 7)).take 2) 0 = h at n3 ⊢
  generalize numGo ((L.drop (a + 10)).take 2) 0 = i at n4 ⊢
  generalize numGo (L.drop (a + 13)) 0 = t at n5 ⊢
  have hday := ref_day y m d
  have hdr := Lf.day_range y m d
  obtain ⟨⟨D, ok⟩, hD⟩ : ∃ D, dayS y m d = D := ⟨_, rfl⟩
  rw [hD] at hday hdr
  simp only [] at hdr
  unfold refF
  rw [hD]
  refine Ev.step (fun k => by
    simp only [rootcellarref15_Read.j0, hsz, w15, w1, w3, w4, w6, w7, w9, w10, w12, w13, p0, q0, q 1 3 (by decide), q 3 15 (by decide), q 4 6 (by decide), q 6 15 (by decide), q 7 9 (by decide), q 9 15 (by decide), q 10 12 (by decide), q 12 15 (by decide), q 13 15 (by decide), Int.toNat_natCast, x0, xe 1 3 2 rfl, xe 4 6 2 rfl, xe 7 9 2 rfl, xe 10 12 2 rfl, xz, ite_true, Bool.false_eq_true, ite_false]
    rfl) ?_
  refine Ev.bind n0 (Ev.bind n1 (Ev.bind n2 (Ev.bind hday (Ev.bind n3 (Ev.bind n4 (Ev.bind n5 ?_))))))
  have out : ∀ b c e f : Int, Ev (fun k => rootcellarref15_Read.j1 k (ba L) b c e f true) (0, 2) := fun b c e f => j1_no (ba L) b c e f
  clear n0 n1 n2 n3 n4 n5 hday w15 w1 w3 w4 w6 w7 w9 w10 w12 w13 p0 q q0 xe x0 xz ln
  simp only []
  cases ok with
  | false =>
    rw [if_pos (Or.inl rfl)]
    exact Ev.congr (fun k => by simp only [Bool.false_eq_true, ite_false]) (out D h i t)
  | true =>
    by_cases e1 : 213503982334601 < D
    · rw [if_pos (Or.inr (Or.inl e1))]
      exact Ev.congr (fun k => by rw [if_pos rfl, if_pos e1]) (out D h i t)
    by_cases e2 : h < 0
    · rw [if_pos (Or.inr (Or.inr (Or.inl e2)))]
      exact Ev.congr (fun k => by rw [if_pos rfl, if_neg e1, if_pos e2]) (out D h i t)
    by_cases e3 : i < 0
    · rw [if_pos (Or.inr (Or.inr (Or.inr (Or.inl e3))))]
      exact Ev.congr (fun k => by rw [if_pos rfl, if_neg e1, if_neg e2, if_pos e3]) (out D h i t)
    by_cases e4 : t < 0
    · rw [if_pos (Or.inr (Or.inr (Or.inr (Or.inr (Or.inl e4)))))]
      exact Ev.congr (fun k => by rw [if_pos rfl, if_neg e1, if_neg e2, if_neg e3, if_pos e4]) (out D h i t)
    by_cases e5 : 23 < h
    · rw [if_pos (Or.inr (Or.inr (Or.inr (Or.inr (Or.inr (Or.inl e5))))))]
      exact Ev.congr (fun k => by rw [if_pos rfl, if_neg e1, if_neg e2, if_neg e3, if_neg e4, if_pos e5]) (out D h i t)
    by_cases e6 : 59 < i
    · rw [if_pos (Or.inr (Or.inr (Or.inr (Or.inr (Or.inr (Or.inr (Or.inl e6)))))))]
      exact Ev.congr (fun k => by rw [if_pos rfl, if_neg e1, if_neg e2, if_neg e3, if_neg e4, if_neg e5, if_pos e6]) (out D h i t)
    by_cases e7 : 59 < t
    · rw [if_pos (Or.inr (Or.inr (Or.inr (Or.inr (Or.inr (Or.inr (Or.inr e7)))))))]
      exact Ev.congr (fun k => by rw [if_pos rfl, if_neg e1, if_neg e2, if_neg e3, if_neg e4, if_neg e5, if_neg e6, decide_eq_true (p := t > 59) e7]) (out D h i t)
    rw [if_neg (by rintro (h | h | h | h | h | h | h | h) <;> first | (cases h; done) | exact absurd h (by assumption))]
    obtain ⟨Dn, rfl⟩ := Int.eq_ofNat_of_zero_le hdr.1
    obtain ⟨hn', rfl⟩ := Int.eq_ofNat_of_zero_le (show 0 ≤ h by omega)
    obtain ⟨i', rfl⟩ := Int.eq_ofNat_of_zero_le (show 0 ≤ i by omega)
    obtain ⟨t', rfl⟩ := Int.eq_ofNat_of_zero_le (show 0 ≤ t by omega)
    simp only [Int.toNat_natCast]
    exact Ev.congr (fun k => by rw [if_pos trivial, if_neg e1, if_neg e2, if_neg e3, if_neg e4, if_neg e5, if_neg e6, decide_eq_false (p := (t' : Int) > 59) e7]) (j1_yes L Dn hn' i' t' (by omega) (by omega) (by omega) (by omega))
theorem drop_at (P T : List UInt8) (n i : Nat) (h : n = P.length) : (P ++ T).drop (n + i) = T.drop i := by
  rw [h, List.drop_append, List.drop_of_length_le (by omega), show P.length + i - P.length = i by omega]
  rfl
theorem pad_two_ex (n : Nat) (h : n < 100) : ∃ p q, padN n 2 = [p, q] := by
  rw [padN_two n h]
  exact ⟨_, _, rfl⟩
theorem refV_stamp (S : Nat) (h : S < 18446744073709551616) : refV (stampL S) = ((S : Int), 0) := by
  obtain ⟨t, ht⟩ : ∃ t, t = S / 86400 + 719468 := ⟨_, rfl⟩
  obtain ⟨y, m, d, hc⟩ := civ_parts t
  have hs := stamp_shape S t ht y m d hc
  obtain ⟨r1, r2, ⟨v1, v2, v3, v4⟩, _, r3⟩ := civ_range (S / 86400) t ht (by omega) y m d hc
  have hl := longN_le (leapN y) m
  obtain ⟨g1, g2, g3⟩ := small_facts S
  obtain ⟨m1, m2, em⟩ := pad_two_ex m (by omega)
  obtain ⟨d1, d2, ed⟩ := pad_two_ex d (by omega)
  obtain ⟨h1, h2, eh⟩ := pad_two_ex (S % 86400 / 3600) (by omega)
  obtain ⟨i1, i2, ei⟩ := pad_two_ex (S % 86400 / 60 % 60) (by omega)
  obtain ⟨t1, t2, et⟩ := pad_two_ex (S % 86400 % 60) (by omega)
  have nm := numGo_pad m 2
  have nd := numGo_pad d 2
  have nh := numGo_pad (S % 86400 / 3600) 2
  have ni := numGo_pad (S % 86400 / 60 % 60) 2
  have nt := numGo_pad (S % 86400 % 60) 2
  have ny := numGo_pad y 4
  rw [em] at hs nm
  rw [ed] at hs nd
  rw [eh] at hs nh
  rw [ei] at hs ni
  rw [et] at hs nt
  have hlen : (padN y 4).length ≤ 17 ∧ 4 ≤ (padN y 4).length := by
    rw [padN_length]
    have := nDigits_mono y 1000000000000 r2
    rw [nDigits_unique 12 1000000000000 (by decide) (by decide)] at this
    omega
  have hsum := sec_sum S h
  generalize padN y 4 = P at hs ny hlen
  have hs' : stampL S = P ++ [45, m1, m2, 45, d1, d2, 32, h1, h2, 58, i1, i2, 58, t1, t2] := by
    rw [hs]
    simp only [List.append_assoc, List.cons_append, List.nil_append]
  have hL : (stampL S).length = P.length + 15 := by rw [hs', List.length_append]; rfl
  unfold refV
  rw [hL, if_neg (by omega), Nat.add_sub_cancel]
  have hself : stampL S = stampL S := rfl
  obtain ⟨L, hLL⟩ : ∃ L, stampL S = L := ⟨_, rfl⟩
  rw [hLL] at hs' ⊢
  have hk : refA L P.length = refF L y m d ((S % 86400 / 3600 : Nat) : Int) ((S % 86400 / 60 % 60 : Nat) : Int) ((S % 86400 % 60 : Nat) : Int) := by
    unfold refA
    rw [hs', List.take_left, drop_at P _ _ 1 rfl, drop_at P _ _ 4 rfl, drop_at P _ _ 7 rfl, drop_at P _ _ 10 rfl, drop_at P _ _ 13 rfl]
    simp only [List.drop_succ_cons, List.drop_zero, List.take_succ_cons, List.take_zero, nm, nd, nh, ni, nt, ny]
  rw [hk]
  unfold refF
  have b1 : ((S / 86400 : Nat) : Int) ≤ 213503982334601 := by omega
  rw [r3]
  simp only [Int.toNat_natCast]
  rw [hsum, if_neg (by rintro (h | h | h | h | h | h | h | h) <;> first | (cases h; done) | omega), if_pos hLL]
theorem readThree_form (s : ByteArray) (y m d h i t : Nat) : readThree s y m d h i t = (0, 2) ∨ ∃ S : Nat, S < 18446744073709551616 ∧ stampL S = s.data.toList ∧ readThree s y m d h i t = ((S : Int), 0) := by
  unfold readThree
  split
  · exact Or.inl rfl
  · split
    · rename_i hq
      exact Or.inr ⟨_, Nat.mod_lt _ (by decide), hq, rfl⟩
    · exact Or.inl rfl
theorem readV_form (s : ByteArray) : readV s = (0, 2) ∨ ∃ S : Nat, S < 18446744073709551616 ∧ stampL S = s.data.toList ∧ readV s = ((S : Int), 0) := by
  unfold readV readTwo
  split
  · exact readThree_form ..
  · exact Or.inl rfl
theorem refV_form (L : List UInt8) : refV L = (0, 2) ∨ ∃ S : Nat, S < 18446744073709551616 ∧ stampL S = L ∧ refV L = ((S : Int), 0) := by
  unfold refV
  split
  · exact Or.inl rfl
  · unfold refA refF
    split
    · exact Or.inl rfl
    · split
      · rename_i hq
        exact Or.inr ⟨_, Nat.mod_lt _ (by decide), hq, rfl⟩
      · exact Or.inl rfl
/-- Both readings are one. -/
theorem read_eq (L : List UInt8) : readV (ba L) = refV L := by
  rcases readV_form (ba L) with h1 | ⟨S, hS, hq, h1⟩
  · rcases refV_form L with h2 | ⟨S, hS, hq, h2⟩
    · rw [h1, h2]
    · rw [← hq, readV_stamp S hS, refV_stamp S hS]
  · rw [ba_list] at hq
    rw [← hq, readV_stamp S hS, refV_stamp S hS]
theorem DateReads (a0 : ByteArray) (_hn : a0.size ≤ maxLen) : ∃ k, rootcellarlaw15_DateReads.f k a0 = some true := by
  apply Ev.rounds
  obtain ⟨L, rfl⟩ := ex_ba a0
  refine Ev.congr (f := fun k => (rootcellarlaw15_shown.f k).bind fun t144 => (if t144 = true then (rootcellarlaw15_DateReads.j0 k (ba L) t144 (decide (((ba L).size : Int) > 100))) else (rootcellarlaw15_DateReads.j0 k (ba L) t144 true))) (fun k => rfl) (Ev.bind shown15 ?_)
  refine Ev.congr (fun k => if_pos rfl) ?_
  by_cases c : ((ba L).size : Int) > 100
  · rw [decide_eq_true c]
    exact Ev.step (f := fun _ => some true) (fun _ => rfl) (Ev.now _)
  · rw [decide_eq_false c]
    have hf : date_Read.f (ba L) = some (readV (ba L)) := by
      show readF (ba L) = _
      unfold readF
      rw [if_pos (by omega)]
    refine Ev.step (fun k => by simp only [rootcellarlaw15_DateReads.j0, Bool.false_eq_true, ite_false, hf, Option.bind_some]; rfl) (Ev.bind (ref_read L) ?_)
    rw [read_eq]
    exact Ev.congr (f := fun _ => some true) (fun k => by simp) (Ev.now _)
end Go.Proofs.YtjoaiolacalemaaDoor.Pu
end
