-- Packed by pack.py, a program of this session, out of texts of this claim.
import Derived.Test.YtjoaiolacalemaaDoorClDateBackLfRead
import Derived.Test.YtjoaiolacalemaaDoorPlSplit
import Derived.Test.YtjoaiolacalemaaDoorClDateBack2
import Derived.Test.YtjoaiolacalemaaDoorClDateBack1
import Derived.Test.YtjoaiolacalemaaDoorClDateBack3
section
/- date.Read and the document's answer, in plain words: of a stamp, and of any text. -/




namespace Go.Proofs.YtjoaiolacalemaaDoor.Pu
set_option maxRecDepth 20000
open Go Go.Lib Go.RowKit Go.Proofs.YtjoaiolacalemaaDoor.Pl Go.Proofs.YtjoaiolacalemaaDoor.Lf Go.Proofs.YtjoaiolacalemaaDoor.Fn Go.Proofs.YtjoaiolacalemaaDoorW.PrintWords
theorem puGo_digW (mx w : Nat) : ∀ (n : Nat) (r : List UInt8) (a : Nat), n < 10 ^ w → a * 10 ^ w + n ≤ mx → puGo 10 mx (digW w n ++ r) a = puGo 10 mx r (a * 10 ^ w + n) := by
  induction w with
  | zero => intro n r a h _; have : n = 0 := by omega
            subst this; simp [digW]
  | succ w ih =>
    intro n r a h hm
    rw [Nat.pow_succ] at h
    have h10 : n % 10 < 10 := Nat.mod_lt _ (by decide)
    have e : (a * 10 ^ w + n / 10) * 10 + n % 10 = a * 10 ^ (w + 1) + n := by
      rw [Nat.pow_succ, ← Nat.mul_assoc]
      generalize a * 10 ^ w = q
      omega
    rw [digW, List.append_assoc, ih (n / 10) _ a (by omega) (by omega)]
    show puGo 10 mx (UInt8.ofNat (48 + n % 10) :: r) _ = _
    have hv : digV (UInt8.ofNat (48 + n % 10)) = n % 10 := by
      unfold digV
      rw [dig_toNat, if_pos (by omega)]
      omega
    rw [puGo, hv, if_neg (by omega), e, if_neg (by omega)]
theorem num_pad (n d : Nat) (h : n ≤ 281474976710655) : isNum (ba (padN n d)) ∧ num1 (ba (padN n d)) = n := by
  have e : puL 10 281474976710655 (ba (padN n d)).data.toList = (n, 0) := by
    rw [ba_list]
    unfold puL
    have hne : padN n d ≠ [] := fun e => by
      have := padN_length n d
      rw [e, List.length_nil] at this
      have := nDigits_pos n
      omega
    rw [if_neg hne, padN_eq]
    have hlt : n < 10 ^ max d (nDigits n) := Nat.lt_of_lt_of_le (lt_pow_nDigits n) (Nat.pow_le_pow_right (by decide) (Nat.le_max_right _ _))
    have h2 := puGo_digW 281474976710655 (max d (nDigits n)) n [] 0 hlt (by omega)
    rw [List.append_nil, Nat.zero_mul, Nat.zero_add] at h2
    rw [h2]
    rfl
  unfold isNum num1
  rw [e]
  exact ⟨rfl, rfl⟩
theorem nums_three (a b c da db dc : Nat) (ha : a ≤ 281474976710655) (hb : b ≤ 281474976710655) (hc : c ≤ 281474976710655) : numsL [ba (padN a da), ba (padN b db), ba (padN c dc)] = some [a, b, c] := by
  obtain ⟨p1, q1⟩ := num_pad a da ha
  obtain ⟨p2, q2⟩ := num_pad b db hb
  obtain ⟨p3, q3⟩ := num_pad c dc hc
  rw [numsL_good _ p1, numsL_good _ p2, numsL_good _ p3, q1, q2, q3]
  rfl
/-- The year, month and day of a day in range: in their bounds. -/
theorem civ_range (day t : Nat) (ht : t = day + 719468) (h : day ≤ 281474976710656) (y m d : Nat) (hc : civN t = (y, m, d)) : 1970 ≤ y ∧ y ≤ 1000000000000 ∧ valid y m d ∧ dayOf y m d = t + 61 ∧ dayS (y : Int) (m : Int) (d : Int) = ((day : Int), true) := by
  obtain ⟨hv, hd⟩ := civ_ok t
  rw [hc] at hv hd
  simp only [] at hv hd
  have e : dayOf y m d - 719529 = day := by omega
  have h1 : 1970 ≤ y := by
    have h70 : dayOf 1970 1 1 = 719529 := by
      unfold dayOf
      rw [yday_1970, show mday (leapN 1970) 1 = 0 from rfl]
    exact year_le (y := 1970) (m := 1) (d := 1) ⟨by decide, by decide, by decide, by decide⟩ hv (by rw [h70]; omega)
  have h2 : y ≤ 1000000000000 := by
    rcases Nat.lt_or_ge 1000000000000 y with hlt | hge
    · have := day_far y m d hlt
      rw [e] at this
      unfold dayF at this
      rw [if_neg (by omega)] at this
      cases this
    · exact hge
  refine ⟨h1, h2, hv, hd, ?_⟩
  unfold dayS
  obtain ⟨v1, v2, v3, v4⟩ := hv
  rw [leapI_nat, longM_nat, if_neg (by rintro (h | h | h | h) <;> omega)]
  simp only [Int.toNat_natCast]
  rw [e]
  unfold dayF
  rw [if_neg (by omega)]
theorem stamp_shape (S t : Nat) (ht : t = S / 86400 + 719468) (y m d : Nat) (hc : civN t = (y, m, d)) :
    stampL S = (padN y 4 ++ 45 :: (padN m 2 ++ 45 :: padN d 2)) ++ 32 :: (padN (S % 86400 / 3600) 2 ++ 58 :: (padN (S % 86400 / 60 % 60) 2 ++ 58 :: padN (S % 86400 % 60) 2)) := by
  unfold stampL
  rw [← ht, hc]
  unfold dateL clockL
  simp only [List.append_assoc, List.cons_append, List.nil_append]
theorem civ_parts (t : Nat) : ∃ y m d, civN t = (y, m, d) := by
  obtain ⟨y, m, d⟩ := civN t
  exact ⟨y, m, d, rfl⟩
theorem sec_sum (S : Nat) (h : S < 18446744073709551616) : secOf (S / 86400) (S % 86400 / 3600) (S % 86400 / 60 % 60) (S % 86400 % 60) = S := by
  unfold secOf
  have : S / 86400 * 86400 + (3600 * (S % 86400 / 3600) + 60 * (S % 86400 / 60 % 60) + S % 86400 % 60) = S := by omega
  rw [this, Nat.mod_eq_of_lt h]
/-- A stamp, read. -/
theorem readV_stamp (S : Nat) (h : S < 18446744073709551616) : readV (ba (stampL S)) = ((S : Int), 0) := by
  obtain ⟨t, ht⟩ : ∃ t, t = S / 86400 + 719468 := ⟨_, rfl⟩
  obtain ⟨y, m, d, hc⟩ := civ_parts t
  have hs := stamp_shape S t ht y m d hc
  obtain ⟨c1, c2, c3, c4, c5⟩ := civ_bounds t
  obtain ⟨r1, r2, _, _, r3⟩ := civ_range (S / 86400) t ht (by omega) y m d hc
  rw [hc] at c1 c2 c3 c4
  simp only [] at c1 c2 c3 c4
  clear c5
  obtain ⟨g1, g2, g3⟩ := small_facts S
  have n45 : ∀ n w, (45 : UInt8) ∉ padN n w := fun n w => padN_ne n w 45 (by decide)
  have n58 : ∀ n w, (58 : UInt8) ∉ padN n w := fun n w => padN_ne n w 58 (by decide)
  have n32 : ∀ n w, (32 : UInt8) ∉ padN n w := fun n w => padN_ne n w 32 (by decide)
  have hcut := cut_one 32 (padN y 4 ++ 45 :: (padN m 2 ++ 45 :: padN d 2)) (padN (S % 86400 / 3600) 2 ++ 58 :: (padN (S % 86400 / 60 % 60) 2 ++ 58 :: padN (S % 86400 % 60) 2)) (by
    simp only [List.mem_append, List.mem_cons, not_or]
    exact ⟨n32 _ _, by decide, n32 _ _, by decide, n32 _ _⟩)
  have hD : datePart (ba (stampL S)) = ba (padN y 4 ++ 45 :: (padN m 2 ++ 45 :: padN d 2)) := by
    unfold datePart; rw [ba_list, hs, hcut]; rfl
  have hC : clockPart (ba (stampL S)) = ba (padN (S % 86400 / 3600) 2 ++ 58 :: (padN (S % 86400 / 60 % 60) 2 ++ 58 :: padN (S % 86400 % 60) 2)) := by
    unfold clockPart; rw [ba_list, hs, hcut]; rfl
  unfold readV
  rw [hD, hC]
  have w1 : wordsL (ba (padN y 4 ++ 45 :: (padN m 2 ++ 45 :: padN d 2))) ⟨#[45]⟩ = [ba (padN y 4), ba (padN m 2), ba (padN d 2)] := split_three 45 _ _ _ (n45 _ _) (n45 _ _) (n45 _ _)
  have w2 : wordsL (ba (padN (S % 86400 / 3600) 2 ++ 58 :: (padN (S % 86400 / 60 % 60) 2 ++ 58 :: padN (S % 86400 % 60) 2))) ⟨#[58]⟩ = [ba (padN (S % 86400 / 3600) 2), ba (padN (S % 86400 / 60 % 60) 2), ba (padN (S % 86400 % 60) 2)] := split_three 58 _ _ _ (n58 _ _) (n58 _ _) (n58 _ _)
  rw [w1, w2, nums_three _ _ _ _ _ _ (by omega) (by omega) (by omega), nums_three _ _ _ _ _ _ (by omega) (by omega) (by omega)]
  show readThree _ y m d _ _ _ = _
  unfold readThree
  have r3' : dayS (y : Int) (m : Int) (d : Int) = (((S / 86400 : Nat) : Int), true) := r3
  have hsum := sec_sum S h
  have b1 : ((S / 86400 : Nat) : Int) ≤ 213503982334601 := by omega
  rw [r3']
  simp only [Int.toNat_natCast]
  rw [hsum, ba_list, if_pos rfl, if_neg (by rintro (h | h | h | h | h) <;> first | (cases h; done) | omega)]
end Go.Proofs.YtjoaiolacalemaaDoor.Pu
end
section
/- DateBack, in plain words: true of every input. -/


namespace Go.Proofs.YtjoaiolacalemaaDoor.Pu
set_option maxRecDepth 20000
open Go Go.Lib Go.RowKit Go.Proofs.YtjoaiolacalemaaDoor.Pl Go.Proofs.YtjoaiolacalemaaDoor.Lf Go.Proofs.YtjoaiolacalemaaDoor.Fn Go.Proofs.YtjoaiolacalemaaDoorW.PrintWords
/-- The day behind a date. -/
theorem next_day (t y m d : Nat) (hv : valid y m d) (hd : dayOf y m d = t + 61) :
    civN (t + 1) = if d < longN (leapN y) m then (y, m, d + 1) else if m < 12 then (y, m + 1, 1) else (y + 1, 1, 1) := by
  obtain ⟨v1, v2, v3, v4⟩ := hv
  have key : ∀ y' m' d', valid y' m' d' → dayOf y' m' d' = t + 62 → civN (t + 1) = (y', m', d') := by
    intro y' m' d' hv' hd'
    obtain ⟨hw, he⟩ := civ_ok (t + 1)
    obtain ⟨a, b, c⟩ := dayOf_inj hv' hw (by rw [he]; exact hd')
    rw [a, b, c]
  have l1 : ∀ (b : Bool) (k : Fin 13), 1 ≤ k.val → 1 ≤ longN b k.val := by decide
  by_cases c1 : d < longN (leapN y) m
  · rw [if_pos c1]
    exact key y m (d + 1) ⟨v1, v2, by omega, by omega⟩ (by unfold dayOf at hd ⊢; omega)
  · rw [if_neg c1]
    by_cases c2 : m < 12
    · rw [if_pos c2]
      refine key y (m + 1) 1 ⟨by omega, by omega, by omega, l1 (leapN y) ⟨m + 1, by omega⟩ (by show 1 ≤ m + 1; omega)⟩ ?_
      have := mday_succ (leapN y) m v1
      unfold dayOf at hd ⊢
      omega
    · rw [if_neg c2]
      obtain rfl : m = 12 := by omega
      refine key (y + 1) 1 1 ⟨by omega, by omega, by omega, l1 _ ⟨1, by omega⟩ (Nat.le_refl _)⟩ ?_
      have h1 := mday_all (leapN y)
      have h2 : yday (y + 1) = yday y + daysN y := rfl
      have h3 : daysN y = if leapN y = true then 366 else 365 := rfl
      have h4 : mday (leapN (y + 1)) 1 = 0 := rfl
      unfold dayOf at hd ⊢
      rw [h2, h4, h3]
      omega
theorem back2_j (k : Nat) (y m d y' m' d' : Int) : rootcellarlaw15_DateBack.j2 (k + 1) y m d y' m' d' false = ((date_Long.f y m).bind fun t162 => (if d < t162 then (if y' = y then (if m' = m then (some (d' == (wrap64 (d + 1)))) else (some false)) else (some false)) else (if m < 12 then (if y' = y then (if m' = (wrap64 (m + 1)) then (some (d' == 1)) else (some false)) else (some false)) else (if y' = (wrap64 (y + 1)) then (if m' = 1 then (some (d' == 1)) else (some false)) else (some false))))) := rfl
theorem back2 (y m d y' m' d' : Nat) (hy : y ≤ 1000000000000) (hm : m ≤ 12) (hd : d ≤ 31) (h : (y', m', d') = if d < longN (leapN y) m then (y, m, d + 1) else if m < 12 then (y, m + 1, 1) else (y + 1, 1, 1)) :
    Ev (fun k => rootcellarlaw15_DateBack.j2 k (y : Int) (m : Int) (d : Int) (y' : Int) (m' : Int) (d' : Int) false) true := by
  have b1 : y < 9223372036854775807 := by omega
  have b2 : m < 9223372036854775807 := by omega
  have b3 : d < 9223372036854775807 := by omega
  have hl : date_Long.f (y : Int) (m : Int) = some ((longN (leapN y) m : Nat) : Int) := by rw [long_eq, leapI_nat, longM_nat]
  have g1 : (d : Int) < ((longN (leapN y) m : Nat) : Int) ↔ d < longN (leapN y) m := Int.ofNat_lt
  have g2 : (m : Int) < 12 ↔ m < 12 := by omega
  generalize longN (leapN y) m = l at h hl g1
  have w1 : wrap64 ((y : Int) + 1) = ((y + 1 : Nat) : Int) := wa1 y (Nat.add_lt_add_right b1 1)
  have w2 : wrap64 ((m : Int) + 1) = ((m + 1 : Nat) : Int) := wa1 m (Nat.add_lt_add_right b2 1)
  have w3 : wrap64 ((d : Int) + 1) = ((d + 1 : Nat) : Int) := wa1 d (Nat.add_lt_add_right b3 1)
  refine Ev.step (f := fun _ => some true) (fun k => ?_) (Ev.now _)
  rw [back2_j, hl]
  simp only [Option.bind_some]
  rw [w1, w2, w3]
  by_cases c1 : d < l
  · rw [if_pos c1] at h
    simp only [Prod.mk.injEq] at h
    obtain ⟨rfl, rfl, rfl⟩ := h
    rw [if_pos (g1.2 c1), if_pos rfl, if_pos rfl]
    simp
  · rw [if_neg c1] at h
    rw [if_neg (fun x => c1 (g1.1 x))]
    by_cases c2 : m < 12
    · rw [if_pos c2] at h
      simp only [Prod.mk.injEq] at h
      obtain ⟨rfl, rfl, rfl⟩ := h
      rw [if_pos (g2.2 c2), if_pos rfl, if_pos rfl]
      rfl
    · rw [if_neg c2] at h
      simp only [Prod.mk.injEq] at h
      obtain ⟨rfl, rfl, rfl⟩ := h
      rw [if_neg (fun x => c2 (g2.1 x)), if_pos rfl]
      rfl
theorem back1_j (k : Nat) (x0 : Int) : rootcellarlaw15_DateBack.j1 (k + 1) x0 false = ((date_Civil.f k x0).bind fun bt153 => ((date_Day.f k bt153.1 bt153.2.1 bt153.2.2).bind fun bt156 => ((date_Civil.f k (wrap64 (x0 + 1))).bind fun bt158 => (if bt156.2 = true then (if bt156.1 = x0 then (if bt153.2.2 < 1 then (rootcellarlaw15_DateBack.j2 k bt153.1 bt153.2.1 bt153.2.2 bt158.1 bt158.2.1 bt158.2.2 true) else ((date_Long.f bt153.1 bt153.2.1).bind fun t161 => (if bt153.2.2 > t161 then (rootcellarlaw15_DateBack.j2 k bt153.1 bt153.2.1 bt153.2.2 bt158.1 bt158.2.1 bt158.2.2 true) else (if bt153.2.1 < 1 then (rootcellarlaw15_DateBack.j2 k bt153.1 bt153.2.1 bt153.2.2 bt158.1 bt158.2.1 bt158.2.2 true) else (rootcellarlaw15_DateBack.j2 k bt153.1 bt153.2.1 bt153.2.2 bt158.1 bt158.2.1 bt158.2.2 (decide (bt153.2.1 > 12))))))) else (rootcellarlaw15_DateBack.j2 k bt153.1 bt153.2.1 bt153.2.2 bt158.1 bt158.2.1 bt158.2.2 true)) else (rootcellarlaw15_DateBack.j2 k bt153.1 bt153.2.1 bt153.2.2 bt158.1 bt158.2.1 bt158.2.2 true))))) := rfl
theorem civS_parts (day t : Nat) (ht : t = day + 719468) (h : day ≤ 281474976710656) (y m d : Nat) (hc : civN t = (y, m, d)) : civS (day : Int) = ((y : Int), (m : Int), (d : Int)) := by
  rw [civS_day day h, ← ht, hc]
theorem back1 (day : Nat) (h : day < 281474976710656) : Ev (fun k => rootcellarlaw15_DateBack.j1 k (day : Int) false) true := by
  obtain ⟨t, ht⟩ : ∃ t, t = day + 719468 := ⟨_, rfl⟩
  obtain ⟨y, m, d, hc⟩ := civ_parts t
  obtain ⟨y', m', d', hc'⟩ := civ_parts (t + 1)
  obtain ⟨r1, r2, ⟨v1, v2, v3, v4⟩, rd, r3⟩ := civ_range day t ht (by omega) y m d hc
  have hn := next_day t y m d ⟨v1, v2, v3, v4⟩ rd
  rw [hc'] at hn
  have e0 := ev_civil (day : Int)
  rw [civS_parts day t ht (by omega) y m d hc] at e0
  have e1 := ev_day (y : Int) (m : Int) (d : Int)
  rw [r3] at e1
  have e2 := ev_civil ((day + 1 : Nat) : Int)
  rw [civS_parts (day + 1) (t + 1) (by omega) (by omega) y' m' d' hc'] at e2
  have hl : date_Long.f (y : Int) (m : Int) = some ((longN (leapN y) m : Nat) : Int) := by rw [long_eq, leapI_nat, longM_nat]
  have g1 : ¬ (d : Int) < 1 := by omega
  have g2 : ¬ (d : Int) > ((longN (leapN y) m : Nat) : Int) := by omega
  have g3 : ¬ (m : Int) < 1 := by omega
  have g4 : ¬ (m : Int) > 12 := by omega
  have hd31 : d ≤ 31 := Nat.le_trans v4 (longN_le _ _)
  have b : day < 9223372036854775807 := by omega
  have w1 : wrap64 ((day : Int) + 1) = ((day + 1 : Nat) : Int) := wa1 day (Nat.add_lt_add_right b 1)
  refine Ev.step (fun k => by rw [back1_j, w1]) (Ev.bind e0 (Ev.bind e1 (Ev.bind e2 ?_)))
  refine Ev.congr (fun k => ?_) (back2 y m d y' m' d' r2 v2 hd31 hn)
  simp only [hl, Option.bind_some]
  rw [if_pos trivial, if_pos trivial, if_neg g1, if_neg g2, if_neg g3, decide_eq_false g4]
theorem DateBack (a0 a1 : Int) (hn : 0 ≤ a1 ∧ a1 < 18446744073709551616) : ∃ k, rootcellarlaw15_DateBack.f k a0 a1 = some true := by
  apply Ev.rounds
  obtain ⟨S, rfl⟩ := Int.eq_ofNat_of_zero_le hn.1
  have hS : S < 18446744073709551616 := by omega
  have hsz : (ba (stampL S)).size < 4294967281 := by
    obtain ⟨t, ht⟩ : ∃ t, t = S / 86400 + 719468 := ⟨_, rfl⟩
    obtain ⟨y, m, d, hc⟩ := civ_parts t
    obtain ⟨r1, r2, ⟨v1, v2, v3, v4⟩, _, _⟩ := civ_range (S / 86400) t ht (by omega) y m d hc
    have l1 := padN_length y 4
    have l2 := nDigits_mono y 1000000000000 r2
    rw [nDigits_unique 12 1000000000000 (by decide) (by decide)] at l2
    have l3 : ∀ n, n < 100 → (padN n 2).length = 2 := fun n h => by rw [padN_two n h]; exact digW_length 2 n
    have hl := longN_le (leapN y) m
    obtain ⟨g1, g2, g3⟩ := small_facts S
    rw [ba_size, stamp_shape S t ht y m d hc]
    simp only [List.length_append, List.length_cons]
    rw [l1, l3 m (by omega), l3 d (by omega), l3 _ (by omega), l3 _ (by omega), l3 _ (by omega)]
    omega
  have hf : date_Read.f (ba (stampL S)) = some ((S : Int), 0) := by
    show readF (ba (stampL S)) = _
    unfold readF
    rw [if_pos hsz, readV_stamp S hS]
  refine Ev.congr (fun k => rfl) (Ev.bind shown15 (Ev.bind (ev_stamp S hS) ?_))
  refine Ev.congr (f := fun k => rootcellarlaw15_DateBack.j0 k a0 false) (fun k => ?_) ?_
  · rw [hf]
    simp only [Option.bind_some]
    rw [if_pos trivial, if_pos trivial]
    rfl
  have yes : Ev (fun k => rootcellarlaw15_DateBack.j1 k a0 true) true := Ev.step (f := fun _ => some true) (fun _ => rfl) (Ev.now _)
  by_cases c1 : a0 < 0
  · exact Ev.step (fun k => by simp only [rootcellarlaw15_DateBack.j0, Bool.false_eq_true, ite_false]; rw [if_pos c1]) yes
  by_cases c2 : a0 ≥ 281474976710656
  · exact Ev.step (fun k => by simp only [rootcellarlaw15_DateBack.j0, Bool.false_eq_true, ite_false]; rw [if_neg c1, decide_eq_true c2]) yes
  obtain ⟨day, rfl⟩ := Int.eq_ofNat_of_zero_le (show 0 ≤ a0 by omega)
  exact Ev.step (fun k => by simp only [rootcellarlaw15_DateBack.j0, Bool.false_eq_true, ite_false]; rw [if_neg c1, decide_eq_false c2]) (back1 day (by omega))
end Go.Proofs.YtjoaiolacalemaaDoor.Pu
end
