import Derived.Test.YtjoaiolacalemaaDoorLfNums
import Derived.Test.YtjoaiolacalemaaDoorShPu
import Derived.Lib.SplitLaws
import Derived.Test.YtjoaiolacalemaaDoorClDateBack2
/- date.Read: the split text's numbers. -/





namespace Go.Proofs.YtjoaiolacalemaaDoor.Lf
open Go.RowKit
def wordsL (s sep : ByteArray) : List ByteArray := Lib.splitB sep 0 (Lib.countB s sep) s
theorem splitB_size (sep : ByteArray) : ∀ (k : Nat) (s t : ByteArray), t ∈ Lib.splitB sep 0 k s → t.size ≤ s.size
  | 0, s, t, h => by
    rw [Lib.splitB_zero, List.mem_singleton] at h
    rw [h]
    exact Nat.le_refl _
  | k + 1, s, t, h => by
    unfold Lib.splitB at h
    split at h
    · rw [List.mem_singleton] at h
      rw [h]
      exact Nat.le_refl _
    · rcases List.mem_cons.1 h with h | h
      · rw [h, ByteArray.size_extract]; omega
      · have := splitB_size sep k _ t h
        rw [ByteArray.size_extract] at this
        omega
theorem wordsL_len (s sep : ByteArray) (h1 : 1 ≤ sep.size) : (wordsL s sep).length = Lib.countB s sep + 1 := Lib.splitB_all sep h1 0 _ s rfl
theorem numbers_split (s sep : ByteArray) (h1 : 1 ≤ sep.size) (hsz : s.size < 4294967281) (m : Int) (w : World) (hs : ∃ te pe, w.cell? ⟨1, 0, none⟩ = some (.iface te pe)) (hr : ∃ te pe, w.cell? ⟨2, 0, none⟩ = some (.iface te pe)) :
    Calls Tryd.prog 13 #[.slice (some ⟨w.heap.size, 0, none⟩) (Lib.countB s sep + 1) (Lib.countB s sep + 1), .int .i64 m] (w.alloc (.cells ((Lib.splitB sep 0 (Lib.countB s sep) s).map Value.string).toArray 9)) fun e w' => numE w' (w.heap.size + 1) (numsL (wordsL s sep)) m e ∧ Below w.heap.size w w' := by
  have hl := wordsL_len s sep h1
  have hcl := Lib.countB_le sep h1 _ s (Nat.le_refl _)
  have h := numbers w.heap.size (Lib.countB s sep + 1) (wordsL s sep) m (w.alloc (.cells ((wordsL s sep).map Value.string).toArray 9))
    (fun t ht => Nat.le_trans (splitB_size sep _ s t ht) (by omega)) (by omega) (by simp) (fun j hj => by
      simp only [World.cell?, World.alloc]
      simp [hj, List.getD_eq_getElem?_getD])
    (by obtain ⟨te, pe, hs⟩ := hs; exact ⟨te, pe, (World.cell?_alloc_past _ _ _ (by have := Lib.lt_of_cell hs; omega)).trans hs⟩)
    (by obtain ⟨te, pe, hr⟩ := hr; exact ⟨te, pe, (World.cell?_alloc_past _ _ _ (by have := Lib.lt_of_cell hr; omega)).trans hr⟩)
  rw [hl] at h
  refine h.mono ?_
  rintro e w' ⟨h2, h3⟩
  refine ⟨by simpa using h2, (Below.refl _ w).alloc (Nat.le_refl _) _ |>.trans (h3.mono (by simp))⟩
def datePart (s : ByteArray) : ByteArray := ⟨(Lib.cut s.data.toList [32]).1.toArray⟩
def clockPart (s : ByteArray) : ByteArray := ⟨(Lib.cut s.data.toList [32]).2.1.toArray⟩
def secOf (n h i t : Nat) : Nat := (n * 86400 + (3600 * h + 60 * i + t)) % 18446744073709551616
def readThree (s : ByteArray) (y m d h i t : Nat) : Int × Int :=
  if (Pu.dayS y m d).2 = false ∨ 23 < h ∨ 59 < i ∨ 59 < t ∨ 213503982334601 < (Pu.dayS y m d).1 then (0, 2)
  else if Pu.stampL (secOf (Pu.dayS y m d).1.toNat h i t) = s.data.toList then ((secOf (Pu.dayS y m d).1.toNat h i t : Nat), 0) else (0, 2)
def readTwo (s : ByteArray) : Option (List Nat) → Option (List Nat) → Int × Int
  | some [y, m, d], some [h, i, t] => readThree s y m d h i t
  | _, _ => (0, 2)
def readV (s : ByteArray) : Int × Int := readTwo s (numsL (wordsL (datePart s) ⟨#[45]⟩)) (numsL (wordsL (clockPart s) ⟨#[58]⟩))
theorem cut_size (s : ByteArray) : (datePart s).size ≤ s.size ∧ (clockPart s).size ≤ s.size := by
  have h : s.data.toList.length = s.size := by rw [Array.length_toList]; rfl
  show (Lib.cut s.data.toList [32]).1.toArray.size ≤ s.size ∧ (Lib.cut s.data.toList [32]).2.1.toArray.size ≤ s.size
  rw [List.size_toArray, List.size_toArray]
  unfold Lib.cut
  split
  · exact ⟨by rw [List.length_take]; omega, by rw [List.length_drop]; omega⟩
  · exact ⟨Nat.le_of_eq h, Nat.zero_le _⟩
/-- A text's three numbers, or not. -/
def three (r : Option (List Nat)) : Prop := ∃ y m d, r = some [y, m, d]
theorem num3_good (s sep : ByteArray) (h1 : 1 ≤ sep.size) (hsz : s.size < 4294967281) (w : World) (HE : Errs w) (y m d : Nat) (h : numsL (wordsL s sep) = some [y, m, d]) :
    Calls Tryd.prog 13 #[.slice (some ⟨w.heap.size, 0, none⟩) (Lib.countB s sep + 1) (Lib.countB s sep + 1), .int .i64 3] (w.alloc (.cells ((Lib.splitB sep 0 (Lib.countB s sep) s).map Value.string).toArray 9)) fun e w' =>
      ∃ g c, e = .returned (.tuple #[.slice (some ⟨g, 0, none⟩) 3 c, .bool true]) ∧ (g < w'.heap.size ∧ w'.cell? ⟨g, 0, none⟩ = some (.int .i64 y) ∧ w'.cell? ⟨g, 1, none⟩ = some (.int .i64 m) ∧ w'.cell? ⟨g, 2, none⟩ = some (.int .i64 d)) ∧ Below w.heap.size w w' := by
  refine (numbers_split s sep h1 hsz 3 w HE.es HE.er).mono ?_
  rintro e w' ⟨h2, h3⟩
  rw [h] at h2
  obtain ⟨v, rfl, ho⟩ := h2
  obtain ⟨g, c, rfl⟩ := Go.Joins.ownsRow_form ho (by simp)
  refine ⟨g, c, rfl, ⟨(ho.lt g rfl).2, ho.cellAt 0 (by simp), ho.cellAt 1 (by simp), ho.cellAt 2 (by simp)⟩, h3⟩
theorem num3_any (s sep : ByteArray) (h1 : 1 ≤ sep.size) (hsz : s.size < 4294967281) (w : World) (HE : Errs w) :
    Calls Tryd.prog 13 #[.slice (some ⟨w.heap.size, 0, none⟩) (Lib.countB s sep + 1) (Lib.countB s sep + 1), .int .i64 3] (w.alloc (.cells ((Lib.splitB sep 0 (Lib.countB s sep) s).map Value.string).toArray 9)) fun e w' =>
      ∃ v b, e = .returned (.tuple #[v, .bool b]) ∧ Below w.heap.size w w' := by
  refine (numbers_split s sep h1 hsz 3 w HE.es HE.er).mono ?_
  rintro e w' ⟨h2, h3⟩
  cases hn : numsL (wordsL s sep) with
  | none => rw [hn] at h2; exact ⟨_, _, h2, h3⟩
  | some l => rw [hn] at h2; obtain ⟨v, rfl, _⟩ := h2; exact ⟨_, _, rfl, h3⟩
theorem num3_bad (s sep : ByteArray) (h1 : 1 ≤ sep.size) (hsz : s.size < 4294967281) (w : World) (HE : Errs w) (h : ¬ three (numsL (wordsL s sep))) :
    Calls Tryd.prog 13 #[.slice (some ⟨w.heap.size, 0, none⟩) (Lib.countB s sep + 1) (Lib.countB s sep + 1), .int .i64 3] (w.alloc (.cells ((Lib.splitB sep 0 (Lib.countB s sep) s).map Value.string).toArray 9)) fun e w' =>
      ∃ v, e = .returned (.tuple #[v, .bool false]) ∧ Below w.heap.size w w' := by
  refine (numbers_split s sep h1 hsz 3 w HE.es HE.er).mono ?_
  rintro e w' ⟨h2, h3⟩
  cases hn : numsL (wordsL s sep) with
  | none => rw [hn] at h2; exact ⟨_, h2, h3⟩
  | some l =>
    rw [hn] at h2 h
    obtain ⟨v, rfl, _⟩ := h2
    have hl : ((l.length : Int) == 3) = false := by
      match l, h with
      | [], _ => rfl
      | [_], _ => rfl
      | [_, _], _ => rfl
      | [y, m, d], h => exact absurd ⟨y, m, d, rfl⟩ h
      | _ :: _ :: _ :: _ :: l, _ => simp; omega
    exact ⟨v, by rw [hl], h3⟩
theorem readTwo_bad1 (s : ByteArray) (a b : Option (List Nat)) (h : ¬ three a) : readTwo s a b = (0, 2) := by
  unfold readTwo
  split
  · exact absurd ⟨_, _, _, rfl⟩ h
  · rfl
theorem readTwo_bad2 (s : ByteArray) (a b : Option (List Nat)) (h : ¬ three b) : readTwo s a b = (0, 2) := by
  unfold readTwo
  split
  · exact absurd ⟨_, _, _, rfl⟩ h
  · rfl
theorem day_range (y m d : Int) : 0 ≤ (Pu.dayS y m d).1 ∧ (Pu.dayS y m d).1 ≤ 281474976710656 := by
  unfold Pu.dayS Pu.dayF
  split
  · exact ⟨Int.le_refl _, by decide⟩
  · split
    · exact ⟨Int.le_refl _, by decide⟩
    · simp only []; omega
theorem sec_wrap (nd h i t : Nat) : IntKind.u64.wrap ((nd : Int) * 86400 + (3600 * (h : Int) + 60 * (i : Int) + (t : Int))) = ((secOf nd h i t : Nat) : Int) := by
  unfold secOf
  rw [show (nd : Int) * 86400 + (3600 * (h : Int) + 60 * (i : Int) + (t : Int)) = ((nd * 86400 + (3600 * h + 60 * i + t) : Nat) : Int) by omega]
  generalize nd * 86400 + (3600 * h + 60 * i + t) = x
  simp [IntKind.wrap, IntKind.bits, IntKind.signed]
theorem share {α : Type} {K : α → World → Prop} {PP : World → Prop} {G : Prop} {st : α} (f : (∀ W, PP W → K st W) → G) (h : ∀ W, PP W → K st W) : G := f h
set_option maxHeartbeats 16000000 in
set_option maxRecDepth 100000 in
theorem read_walk (s : ByteArray) (w : World) (hsz : s.size < 4294967281) (HE : Errs w) (HT : Tabs w) :
    Calls Tryd.prog 6 #[.string s] w fun e w' => e = .returned (.tuple #[.int .u64 (readV s).1, .int .i64 (readV s).2]) ∧ Below w.heap.size w w' := by
  obtain ⟨r, hr⟩ : ∃ r, readV s = r := ⟨_, rfl⟩
  rw [hr]
  unfold readV at hr
  obtain ⟨hd, hc⟩ := cut_size s
  obtain ⟨M, hM⟩ := HE.ml
  have hcut := Sh.strings_Cut s ⟨#[32]⟩ M w hsz hM
  have hcut : Calls Tryd.prog 12 #[.string s, .string ⟨#[32]⟩] w fun e w' => e = .returned (.tuple #[.string (datePart s), .string (clockPart s), .bool (Lib.cut s.data.toList [32]).2.2]) ∧ ∃ n, w' = w.drewN n := hcut
  generalize datePart s = D at hcut hr hd
  generalize clockPart s = C at hcut hr hc
  generalize (Lib.cut s.data.toList [32]).2.2 = F at hcut
  have hdz : D.size < 4294967281 := by omega
  have hcz : C.size < 4294967281 := by omega
  have HTa := Lib.hid HT
  clear HT hM hd hc
  by_cases t1 : three (numsL (wordsL D ⟨#[45]⟩))
  · obtain ⟨y, m, d, hd3⟩ := t1
    by_cases t2 : three (numsL (wordsL C ⟨#[58]⟩))
    · obtain ⟨h, i, t, hc3⟩ := t2
      rw [hd3, hc3] at hr
      have hr : readThree s y m d h i t = r := hr
      unfold readThree at hr
      obtain ⟨n1, ok, hday⟩ : ∃ n1 ok, Pu.dayS y m d = (n1, ok) := ⟨_, _, rfl⟩
      have hD := fun w => Fn.date_Day.calls 1 y m d n1 ok w ((Pu.day_eq y m d 0).trans (congrArg some hday))
      rw [hday] at hr
      go_enter Tryd.func6, Tryd.ntmps6
      go_wp2_with (first
      | (go_at_call 12; refine hcut.mono ?_; rintro e W1 ⟨rfl, n, rfl⟩; have HE1 := HE.drewN n; obtain ⟨M1, hM1⟩ := HE1.ml)
      | (go_at_call_of 14 (Value.string D); refine (Sh.strings_Split D _ _ _ hdz hM1 (by decide)).mono ?_; rintro e W2 ⟨rfl, rfl⟩)
      | (go_at_call_of 13 D; refine (num3_good D ⟨#[45]⟩ (by decide) hdz (w.drewN n) HE1 y m d hd3).mono ?_; rintro e W3 ⟨g1, c1, rfl, hg1, hb3⟩; have HE3 := HE1.below hb3; obtain ⟨M3, hM3⟩ := HE3.ml)
      | (go_at_call_of 14 (Value.string C); refine (Sh.strings_Split C _ _ _ hcz hM3 (by decide)).mono ?_; rintro e W4 ⟨rfl, rfl⟩)
      | (go_at_call_of 13 C; refine (num3_good C ⟨#[58]⟩ (by decide) hcz W3 HE3 h i t hc3).mono ?_; rintro e W5 ⟨g2, c2, rfl, hg2, hb5⟩; have q0 := (hb5.cell (p := ⟨g1, 0, none⟩) hg1.1).trans hg1.2.1; have q1 := (hb5.cell (p := ⟨g1, 1, none⟩) hg1.1).trans hg1.2.2.1; have q2 := (hb5.cell (p := ⟨g1, 2, none⟩) hg1.1).trans hg1.2.2.2; obtain ⟨hg2s, p0, p1, p2⟩ := hg2; clear hg1))
      have d0 : W5.drew.cell? ⟨g1, 0, none⟩ = _ := q0
      have d1 : W5.drew.cell? ⟨g1, 1, none⟩ = _ := q1
      have d2 : W5.drew.cell? ⟨g1, 2, none⟩ = _ := q2
      have hb0 : Below w.heap.size w (w.drewN n) := ⟨rfl, rfl, rfl, Nat.le_refl _, fun _ _ => rfl⟩
      have hbA : Below w.heap.size w W5.drew := ((hb0.trans hb3).trans (hb5.mono hb3.size)).trans ⟨rfl, rfl, rfl, Nat.le_refl _, fun _ _ => rfl⟩
      clear q0 q1 q2 hb0 hb3 hb5
      rename_i Qx Kx ax
      apply share (K := Kx) (PP := fun W => Below w.heap.size w W ∧ W.cell? ⟨g2, 0, none⟩ = some (.int .i64 h) ∧ W.cell? ⟨g2, 1, none⟩ = some (.int .i64 i) ∧ W.cell? ⟨g2, 2, none⟩ = some (.int .i64 t))
      case f =>
        intro key
        go_region_with (go_at_call 10; refine (hD _).mono ?_; rintro e W6 ⟨rfl, hb6⟩)
        all_goals (
          have hb7 := hbA.trans (hb6.mono hbA.size)
          have r0 := (hb6.cell (p := ⟨g2, 0, none⟩) hg2s).trans p0
          have r1 := (hb6.cell (p := ⟨g2, 1, none⟩) hg2s).trans p1
          have r2 := (hb6.cell (p := ⟨g2, 2, none⟩) hg2s).trans p2
          exact key _ ⟨hb7, r0, r1, r2⟩)
      case h =>
        rintro W6 ⟨hb7, r0, r1, r2⟩
        refine ax _ _ ?_
        have hdr := day_range y m d
        rw [hday] at hdr
        clear hcut hD ax HE1 HE3 d0 d1 d2 hbA
        cases ok with
        | false =>
          rw [if_pos (Or.inl rfl)] at hr
          subst hr
          go_wp2
          go_ret2
          exact ⟨rfl, hb7⟩
        | true =>
          by_cases e1 : 23 < h
          · rw [if_pos (Or.inr (Or.inl e1))] at hr
            subst hr
            have f1 : (23 : Int) < (h : Int) := by omega
            go_wp2
            go_ret2
            exact ⟨rfl, hb7⟩
          · by_cases e2 : 59 < i
            · rw [if_pos (Or.inr (Or.inr (Or.inl e2)))] at hr
              subst hr
              have f1 : (h : Int) ≤ 23 := by omega
              have f2 : (59 : Int) < (i : Int) := by omega
              go_wp2
              go_ret2
              exact ⟨rfl, hb7⟩
            · by_cases e3 : 59 < t
              · rw [if_pos (Or.inr (Or.inr (Or.inr (Or.inl e3))))] at hr
                subst hr
                have f1 : (h : Int) ≤ 23 := by omega
                have f2 : (i : Int) ≤ 59 := by omega
                have f3 : (59 : Int) < (t : Int) := by omega
                go_wp2
                go_ret2
                exact ⟨rfl, hb7⟩
              · have f1 : (h : Int) ≤ 23 := by omega
                have f2 : (i : Int) ≤ 59 := by omega
                have f3 : (t : Int) ≤ 59 := by omega
                have un : IntKind.u64.wrap n1 = n1 := by
                  obtain ⟨k, rfl⟩ := Int.eq_ofNat_of_zero_le hdr.1
                  exact Pu.u64n k (by omega)
                by_cases e4 : 213503982334601 < n1
                · rw [if_pos (Or.inr (Or.inr (Or.inr (Or.inr e4))))] at hr
                  subst hr
                  go_wp2
                  go_ret2
                  exact ⟨rfl, hb7⟩
                · have f4 : n1 ≤ 213503982334601 := by omega
                  rw [if_neg (by rintro (h | h | h | h | h) <;> first | omega | simp at h)] at hr
                  obtain ⟨nd, rfl⟩ := Int.eq_ofNat_of_zero_le hdr.1
                  go_wp2
                  have x0 : W6.drew.cell? ⟨g2, 0, none⟩ = _ := r0
                  have x1 : W6.drew.cell? ⟨g2, 1, none⟩ = _ := r1
                  have x2 : W6.drew.cell? ⟨g2, 2, none⟩ = _ := r2
                  have hb8 : Below w.heap.size w W6.drew := hb7.trans ⟨rfl, rfl, rfl, Nat.le_refl _, fun _ _ => rfl⟩
                  have hdr1 : (nd : Int) ≤ 281474976710656 := hdr.2
                  clear hday hdr hb7 r0 r1 r2
                  rename_i Ky ay
                  apply share (K := Ky) (PP := fun W => Below w.heap.size w W)
                  case f =>
                    intro key2
                    go_region
                    all_goals exact key2 _ hb8
                  case h =>
                    intro W7 hb9
                    refine ay _ _ ?_
                    have hSb : secOf nd h i t < 18446744073709551616 := Nat.mod_lt _ (by decide)
                    have hS : IntKind.u64.wrap ((nd : Int) * 86400 + (3600 * (h : Int) + 60 * (i : Int) + (t : Int))) = ((secOf nd h i t : Nat) : Int) := sec_wrap nd h i t
                    obtain ⟨k0, hk0⟩ := Pu.ev_stamp (secOf nd h i t) hSb
                    have hst := hk0 k0 (Nat.le_refl _)
                    have hr : (if Pu.stampL (secOf nd h i t) = s.data.toList then (((secOf nd h i t : Nat) : Int), (0 : Int)) else (0, 2)) = r := hr
                    rw [hS]
                    clear hS hk0 ay hb8 x0 x1 x2
                    generalize secOf nd h i t = S at hst hr hSb
                    have hTl : (Pl.ba (Pu.stampL S)).toList = Pu.stampL S := by rw [ByteArray.toList_eq]; rfl
                    have hsl : s.toList = s.data.toList := ByteArray.toList_eq _
                    rw [← hTl, ← hsl] at hr
                    clear hTl hsl
                    generalize Pl.ba (Pu.stampL S) = T at hst hr
                    have hStamp := fun W HTW => Fn.date_Stamp.calls k0 (S : Int) T W hst HTW
                    by_cases hq : T.toList = s.toList
                    · rw [if_pos hq] at hr
                      subst hr
                      go_wp2_with (go_at_call 8; refine (hStamp _ (HTa.out.below hb9)).mono ?_; rintro e W8 ⟨rfl, hb10⟩)
                      go_ret2
                      exact ⟨rfl, hb9.trans (hb10.mono hb9.size)⟩
                    · rw [if_neg hq] at hr
                      subst hr
                      go_wp2_with (go_at_call 8; refine (hStamp _ (HTa.out.below hb9)).mono ?_; rintro e W8 ⟨rfl, hb10⟩)
                      all_goals first
                        | (go_ret2; exact ⟨rfl, hb9.trans (hb10.mono hb9.size)⟩)
                        | exact absurd (by assumption) hq
                        | (exfalso; simp_all)
    · rw [readTwo_bad2 s _ _ t2] at hr
      subst hr
      go_enter Tryd.func6, Tryd.ntmps6
      go_wp2_with (first
      | (go_at_call 12; refine hcut.mono ?_; rintro e W1 ⟨rfl, n, rfl⟩; have HE1 := HE.drewN n; obtain ⟨M1, hM1⟩ := HE1.ml)
      | (go_at_call_of 14 (Value.string D); refine (Sh.strings_Split D _ _ _ hdz hM1 (by decide)).mono ?_; rintro e W2 ⟨rfl, rfl⟩)
      | (go_at_call_of 13 D; refine (num3_good D ⟨#[45]⟩ (by decide) hdz (w.drewN n) HE1 y m d hd3).mono ?_; rintro e W3 ⟨g1, c1, rfl, hg1, hb3⟩; have HE3 := HE1.below hb3; obtain ⟨M3, hM3⟩ := HE3.ml)
      | (go_at_call_of 14 (Value.string C); refine (Sh.strings_Split C _ _ _ hcz hM3 (by decide)).mono ?_; rintro e W4 ⟨rfl, rfl⟩)
      | (go_at_call_of 13 C; refine (num3_bad C ⟨#[58]⟩ (by decide) hcz W3 HE3 t2).mono ?_; rintro e W5 ⟨v2, rfl, hb5⟩))
      go_ret2
      have hb0 : Below w.heap.size w (w.drewN n) := ⟨rfl, rfl, rfl, Nat.le_refl _, fun _ _ => rfl⟩
      exact ⟨rfl, (hb0.trans hb3).trans (hb5.mono hb3.size)⟩
  · rw [readTwo_bad1 s _ _ t1] at hr
    subst hr
    go_enter Tryd.func6, Tryd.ntmps6
    go_wp2_with (first
      | (go_at_call 12; refine hcut.mono ?_; rintro e W1 ⟨rfl, n, rfl⟩; have HE1 := HE.drewN n; obtain ⟨M1, hM1⟩ := HE1.ml)
      | (go_at_call_of 14 (Value.string D); refine (Sh.strings_Split D _ _ _ hdz hM1 (by decide)).mono ?_; rintro e W2 ⟨rfl, rfl⟩)
      | (go_at_call_of 13 D; refine (num3_bad D ⟨#[45]⟩ (by decide) hdz (w.drewN n) HE1 t1).mono ?_; rintro e W3 ⟨v1, rfl, hb3⟩; have HE3 := HE1.below hb3; obtain ⟨M3, hM3⟩ := HE3.ml)
      | (go_at_call_of 14 (Value.string C); refine (Sh.strings_Split C _ _ _ hcz hM3 (by decide)).mono ?_; rintro e W4 ⟨rfl, rfl⟩)
      | (go_at_call_of 13 C; refine (num3_any C ⟨#[58]⟩ (by decide) hcz W3 HE3).mono ?_; rintro e W5 ⟨v2, b2, rfl, hb5⟩))
    go_ret2
    have hb0 : Below w.heap.size w (w.drewN n) := ⟨rfl, rfl, rfl, Nat.le_refl _, fun _ _ => rfl⟩
    exact ⟨rfl, (hb0.trans hb3).trans (hb5.mono hb3.size)⟩
/-- date.Read, plainly. -/
def readF (s : ByteArray) : Option (Int × Int) := if s.size < 4294967281 then some (readV s) else none
theorem read_calls (a0 : ByteArray) (r1 r2 : Int) (w : World) (h : readF a0 = some (r1, r2)) (HT : Tabs w) :
    Calls Tryd.prog 6 #[.string a0] w fun e w' => e = .returned (.tuple #[.int .u64 r1, .int .i64 r2]) ∧ Below w.heap.size w w' := by
  unfold readF at h
  split at h
  case isFalse => cases h
  rename_i hz
  have e := Option.some.inj h
  have := read_walk a0 w hz HT.errs HT
  rw [e] at this
  exact this
end Go.Proofs.YtjoaiolacalemaaDoor.Lf
