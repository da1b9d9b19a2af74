-- Packed by pack.py, a program of this session, out of texts of this claim.
import Derived.Test.YtfoniidbkbmjeaaDoorClStreamPuts3
import Derived.Test.YtfoniidbkbmjeaaDoorClStreamPuts4
import Derived.Test.YtfoniidbkbmjeaaDoorClStreamPuts1
section
/- stream.Put and the reference to it, in plain words. -/



namespace Go.Proofs.YtfoniidbkbmjeaaDoor.Pu
open Go Go.Lib Go.RowKit Go.Proofs.YtfoniidbkbmjeaaDoor.Pl Go.Proofs.YtfoniidbkbmjeaaDoor.Lf Go.Proofs.YtfoniidbkbmjeaaDoor.Fn Go.Proofs.YtfoniidbkbmjeaaDoorW.PrintWords
def rightP (nm fl : List UInt8) : Bool := rightB nm && (decide (0 < fl.length) && (decide (fl.length ≤ 1024) && (fl.length % 16 == 0)))
theorem mod16 (n : Nat) : (((n : Int) % 16) == 0) = (n % 16 == 0) := by
  rw [Bool.eq_iff_iff]; simp; omega
theorem stream_right (nm fl : List UInt8) (t : Int) (hn : nm.length ≤ 1000000000) : stream_Right.f (ba nm) t (ba fl) = some (rightP nm fl) := by
  unfold stream_Right.f rightP
  rw [right_eq nm hn, Option.bind_some, ba_size]
  cases rightB nm
  · rfl
  · by_cases h0 : 0 < fl.length
    · by_cases h1 : fl.length ≤ 1024
      · rw [if_pos rfl, if_pos (by omega), if_pos (by omega), decide_eq_true h0, decide_eq_true h1, mod16]; rfl
      · rw [if_pos rfl, if_pos (by omega), if_neg (by omega), decide_eq_false h1]; simp
    · rw [if_pos rfl, if_neg (by omega), decide_eq_false h0]; simp
theorem ref_right17 (nm fl : List UInt8) (t : Int) (hn : nm.length ≤ 1000000000) : Ev (fun k => rootcellarref17_Right.f k (ba nm) t (ba fl)) (rightP nm fl) := by
  refine Ev.bind (ref_right nm hn) ?_
  refine Ev.congr (f := fun _ => some (rightP nm fl)) (fun k => ?_) (Ev.now _)
  unfold rightP
  rw [ba_size]
  cases rightB nm
  · rfl
  · by_cases h0 : 16 ≤ fl.length
    · by_cases h1 : fl.length ≤ 1024
      · rw [if_pos rfl, if_pos (by omega), if_pos (by omega), decide_eq_true (by omega), decide_eq_true h1, mod16]; rfl
      · rw [if_pos rfl, if_pos (by omega), if_neg (by omega), decide_eq_false h1]; simp
    · rw [if_pos rfl, if_neg (by omega)]
      by_cases h2 : 0 < fl.length
      · rw [show (fl.length % 16 == 0) = false by simp; omega]; simp
      · rw [decide_eq_false h2]; simp
theorem full_eq (fl : List UInt8) (i : Nat) : full (ba fl) i = ((fl.drop (16 * i)).take 16 != List.replicate 16 0) := by
  unfold full
  rw [ba_extract, ba_toList, show 16 * i + 16 - 16 * i = 16 by omega]
theorem all_rep (L : List UInt8) (n : Nat) (h : L.length = n) : L.all (· == 0) = (L == List.replicate n 0) := by
  rw [Bool.eq_iff_iff, List.all_eq_true, beq_iff_eq, List.eq_replicate_iff]
  constructor
  · exact fun hh => ⟨h, fun b hb => by simpa using hh b hb⟩
  · exact fun hh b hb => by simpa using hh.2 b hb
theorem ref_blank_l (fl : List UInt8) (i : Nat) (hl : fl.length ≤ 2000) (h : 16 * i + 16 ≤ fl.length) : ∀ (d j : Nat), j + d = 16 →
    Ev (fun k => rootcellarref17_blank.l0 k (ba fl) (i : Int) ((16 * i + j : Nat) : Int)) (((fl.drop (16 * i + j)).take d).all (· == 0)) := by
  intro d
  induction d with
  | zero =>
    intro j hj
    refine Ev.step (f := fun _ => some true) (fun k => ?_) (Ev.now _)
    simp only [rootcellarref17_blank.l0]
    rw [w64 (16 * (i : Int)) (by omega) (by omega), w64 _ (by omega) (by omega), if_neg (by omega)]
  | succ d ih =>
    intro j hj
    have hlt : 16 * i + j < fl.length := by omega
    have hb := bt_ba fl (16 * i + j) hlt
    rw [List.drop_eq_getElem_cons hlt, List.take_succ_cons, List.all_cons]
    by_cases hz : (fl[16 * i + j]'hlt).toNat = 0
    · have hz2 : (fl[16 * i + j]'hlt == 0) = true := by
        rw [beq_iff_eq]; exact UInt8.toNat_inj.1 (by simpa using hz)
      rw [hz2, Bool.true_and]
      refine Ev.step (fun k => ?_) (ih (j + 1) (by omega))
      simp only [rootcellarref17_blank.l0]
      rw [w64 (16 * (i : Int)) (by omega) (by omega), w64 _ (by omega) (by omega), if_pos (by omega), if_pos (by omega), ba_size, if_pos (by omega), hb, hz, if_pos (by omega), w64 _ (by omega) (by omega)]
      rfl
    · have hz2 : (fl[16 * i + j]'hlt == 0) = false := by
        rw [beq_eq_false_iff_ne]; intro e; rw [e] at hz; exact hz rfl
      rw [hz2, Bool.false_and]
      refine Ev.step (f := fun _ => some false) (fun k => ?_) (Ev.now _)
      simp only [rootcellarref17_blank.l0]
      rw [w64 (16 * (i : Int)) (by omega) (by omega), w64 _ (by omega) (by omega), if_pos (by omega), if_pos (by omega), ba_size, if_pos (by omega), hb, if_neg (by omega)]
theorem ref_blank (fl : List UInt8) (i : Nat) (hl : fl.length ≤ 2000) (h : 16 * i + 16 ≤ fl.length) : Ev (fun k => rootcellarref17_blank.f k (ba fl) (i : Int)) (!full (ba fl) i) := by
  have hh := ref_blank_l fl i hl h 16 0 rfl
  rw [all_rep _ 16 (by rw [List.length_take, List.length_drop]; omega)] at hh
  have e : (!full (ba fl) i) = ((fl.drop (16 * i + 0)).take 16 == List.replicate 16 0) := by
    rw [full_eq, Nat.add_zero, bne, Bool.not_not]
  rw [e]
  refine Ev.congr (fun k => ?_) hh
  unfold rootcellarref17_blank.f
  rw [w64 _ (by omega) (by omega)]
  rfl
/-- The text ahead of the runs. -/
def headT (nm : List UInt8) (t n : Nat) : List UInt8 := [114, 99, 115, 116] ++ putN n 1 ++ putN t 8 ++ putN nm.length 1 ++ nm
def finT (nm : List UInt8) (t n runs : Nat) (text : List UInt8) : ByteArray × Int := (ba (sealed (headT nm t n ++ putN runs 1 ++ text)), 0)
theorem lit4 : (⟨#[114, 99, 115, 116]⟩ : ByteArray) = ba [114, 99, 115, 116] := rfl
theorem ref_end (nm fl : List UInt8) (t n runs at_ : Nat) (text : List UInt8) (hnm : nm.length ≤ 1000) (ht : t < 18446744073709551616) (hn : n ≤ at_) (ha : at_ ≤ 100) (hr : runs ≤ 1000) (hx : text.length ≤ 1000000) :
    Ev (fun k => rootcellarref17_Put.l0 k (n : Int) (runs : Int) (ba text) (at_ : Int) (ba nm) (t : Int) (ba fl)) (finT nm t n runs text) := by
  have h4 : ([114, 99, 115, 116] : List UInt8).length = 4 := rfl
  refine Ev.step (fun k => by simp only [rootcellarref17_Put.l0]; rw [if_neg (by omega), u64_nat n (by omega)]) ?_
  refine Ev.bind (ref_put1 n (by omega)) ?_
  refine Ev.congr (fun k => by rw [ba_size, putN_length, if_pos (by omega)]) ?_
  refine Ev.bind (ref_put8 t ht) ?_
  refine Ev.congr (fun k => by rw [lit4, ba_size, ba_size, ba_size, putN_length, h4, if_pos (by omega), u64_nat nm.length (by omega)]) ?_
  refine Ev.bind (ref_put1 nm.length (by omega)) ?_
  refine Ev.congr (fun k => by rw [ba_size, ba_size, putN_length, if_pos (by omega), if_pos (by omega), u64_nat runs (by omega)]) ?_
  refine Ev.bind (ref_put1 runs (by omega)) ?_
  refine Ev.congr (fun k => by rw [ba_size, putN_length, if_pos (by omega), if_pos (by omega)]) ?_
  simp only [ba_append]
  have hs : (headT nm t n ++ putN runs 1 ++ text).length ≤ 1000000000 := by
    unfold headT
    simp only [List.length_append, putN_length, h4]
    omega
  exact Ev.bind (ref_seal_put _ hs) (Ev.now _)
theorem wsub (f e : Nat) (h : f ≤ e) (he : e ≤ 1000) : wrap64 ((e : Int) - (f : Int)) = ((e - f : Nat) : Int) := by rw [w64 _ (by omega) (by omega)]; omega
theorem wmul16 (f : Nat) (h : f ≤ 1000) : wrap64 (16 * (f : Int)) = ((16 * f : Nat) : Int) := by rw [w64 _ (by omega) (by omega)]; omega
theorem wadd1 (n : Nat) (h : n ≤ 1000000) : wrap64 ((n : Int) + 1) = ((n + 1 : Nat) : Int) := by rw [w64 _ (by omega) (by omega)]; omega
/-- One run told. -/
theorem ref_emit (nm fl : List UInt8) (t n runs f e : Nat) (text : List UInt8) (R : ByteArray × Int) (hf : f < e) (he : e ≤ 64) (hl : 16 * e ≤ fl.length) (hfl : fl.length ≤ 2000) (hr : runs ≤ 1000) (hx : text.length ≤ 1000000)
    (hc : n ≤ e ∨ (e < n ∧ 16 * e + 16 ≤ fl.length ∧ full (ba fl) e = false))
    (h : Ev (fun k => rootcellarref17_Put.l0 k (n : Int) ((runs + 1 : Nat) : Int) (ba (text ++ putN f 1 ++ putN (e - f) 1 ++ (fl.drop (16 * f)).take (16 * e - 16 * f))) ((e + 1 : Nat) : Int) (ba nm) (t : Int) (ba fl)) R) :
    Ev (fun k => rootcellarref17_Put.l1 k (n : Int) (runs : Int) (ba text) (f : Int) (e : Int) (ba nm) (t : Int) (ba fl)) R := by
  have hz : text.length + 1 + 1 + ((fl.drop (16 * f)).take (16 * e - 16 * f)).length ≤ 9223372036854775807 := by rw [List.length_take, List.length_drop]; omega
  rcases hc with hc | ⟨hc, hc2, hc3⟩
  · refine Ev.step (fun k => by simp only [rootcellarref17_Put.l1]; rw [if_neg (by omega), wsub f e (by omega) (by omega), wmul16 f (by omega), wmul16 e (by omega), wadd1 runs (by omega), wadd1 e (by omega), u64_nat f (by omega), u64_nat (e - f) (by omega), Int.toNat_natCast, Int.toNat_natCast, ba_extract]) ?_
    refine Ev.bind (ref_put1 f (by omega)) ?_
    refine Ev.congr (fun k => by rw [ba_size, ba_size, putN_length, if_pos (by omega)]) ?_
    refine Ev.bind (ref_put1 (e - f) (by omega)) ?_
    refine Ev.congr (fun k => by rw [ba_size, putN_length, if_pos (by omega), if_pos (by omega), if_pos (by omega), ba_size, if_pos (by omega), ba_size, if_pos hz]) ?_
    simp only [ba_append]
    exact h
  · have hb := ref_blank fl e hfl hc2
    rw [hc3] at hb
    refine Ev.step (fun k => by simp only [rootcellarref17_Put.l1]; rw [if_pos (by omega)]) ?_
    refine Ev.bind hb ?_
    refine Ev.congr (fun k => by rw [if_pos (by simp), wsub f e (by omega) (by omega), wmul16 f (by omega), wmul16 e (by omega), wadd1 runs (by omega), wadd1 e (by omega), u64_nat f (by omega), u64_nat (e - f) (by omega), Int.toNat_natCast, Int.toNat_natCast, ba_extract]) ?_
    refine Ev.bind (ref_put1 f (by omega)) ?_
    refine Ev.congr (fun k => by rw [ba_size, ba_size, putN_length, if_pos (by omega)]) ?_
    refine Ev.bind (ref_put1 (e - f) (by omega)) ?_
    refine Ev.congr (fun k => by rw [ba_size, putN_length, if_pos (by omega), if_pos (by omega), if_pos (by omega), ba_size, if_pos (by omega), ba_size, if_pos hz]) ?_
    simp only [ba_append]
    exact h
theorem body_run (fl : List UInt8) (f e : Nat) (rest : List Run) (hf : f < e) (he : e ≤ 64) (hl : 16 * e ≤ fl.length) : bodyR (mkRun f ((ba fl).extract (16 * f) (16 * e)) :: rest) = putN f 1 ++ putN (e - f) 1 ++ (fl.drop (16 * f)).take (16 * e - 16 * f) ++ bodyR rest := by
  have hz : ((ba fl).extract (16 * f) (16 * e)).size = 16 * (e - f) := by rw [ba_extract, ba_size, List.length_take, List.length_drop]; omega
  have h := mkRun_val f ((ba fl).extract (16 * f) (16 * e)) ⟨by omega, by omega⟩
  unfold bodyR
  rw [List.flatMap_cons, h]
  simp only
  rw [hz, show 16 * (e - f) / 16 = e - f by omega, ba_extract, ba_list]
theorem ref_loop (nm fl : List UInt8) (t n : Nat) (hnm : nm.length ≤ 1000) (ht : t < 18446744073709551616) (hn : n ≤ 64) (hfl : fl.length = 16 * n) : ∀ d : Nat, d ≤ 65 →
    (∀ (at_ runs : Nat) (text : List UInt8), at_ + d = n + 1 → runs + d ≤ 100 → text.length + 1100 * d ≤ 100000 →
      Ev (fun k => rootcellarref17_Put.l0 k (n : Int) (runs : Int) (ba text) (at_ : Int) (ba nm) (t : Int) (ba fl)) (finT nm t n (runs + (restY (ba fl) n d at_ at_).length) (text ++ bodyR (restY (ba fl) n d at_ at_)))) ∧
    (∀ (e f runs : Nat) (text : List UInt8), e + d = n + 1 → f < e → e ≤ n → runs + d ≤ 100 → text.length + 1100 * d ≤ 100000 →
      Ev (fun k => rootcellarref17_Put.l1 k (n : Int) (runs : Int) (ba text) (f : Int) (e : Int) (ba nm) (t : Int) (ba fl)) (finT nm t n (runs + (restY (ba fl) n d e f).length) (text ++ bodyR (restY (ba fl) n d e f)))) := by
  intro d
  induction d with
  | zero =>
    intro _
    refine ⟨fun at_ runs text ha hr hx => ?_, fun e f runs text he hf hen => by omega⟩
    rw [restY]
    simp only [List.length_nil, Nat.add_zero, bodyR, List.flatMap_nil, List.append_nil]
    exact ref_end nm fl t n runs at_ text hnm ht (by omega) (by omega) (by omega) (by omega)
  | succ d ih =>
    intro hd
    obtain ⟨ih0, ih1⟩ := ih (by omega)
    have emit : ∀ (e f runs : Nat) (text : List UInt8), e + (d + 1) = n + 1 → f < e → e ≤ n → runs + (d + 1) ≤ 100 → text.length + 1100 * (d + 1) ≤ 100000 →
        Ev (fun k => rootcellarref17_Put.l0 k (n : Int) ((runs + 1 : Nat) : Int) (ba (text ++ putN f 1 ++ putN (e - f) 1 ++ (fl.drop (16 * f)).take (16 * e - 16 * f))) ((e + 1 : Nat) : Int) (ba nm) (t : Int) (ba fl))
          (finT nm t n (runs + ([mkRun f ((ba fl).extract (16 * f) (16 * e))] ++ restY (ba fl) n d (e + 1) (e + 1)).length) (text ++ bodyR ([mkRun f ((ba fl).extract (16 * f) (16 * e))] ++ restY (ba fl) n d (e + 1) (e + 1)))) := by
      intro e f runs text he hf hen hr hx
      have h := ih0 (e + 1) (runs + 1) (text ++ putN f 1 ++ putN (e - f) 1 ++ (fl.drop (16 * f)).take (16 * e - 16 * f)) (by omega) (by omega) (by simp only [List.length_append, putN_length, List.length_take, List.length_drop]; omega)
      rw [List.singleton_append, body_run fl f e _ hf (by omega) (by omega), List.length_cons, show runs + ((restY (ba fl) n d (e + 1) (e + 1)).length + 1) = runs + 1 + (restY (ba fl) n d (e + 1) (e + 1)).length by omega]
      simp only [List.append_assoc] at h ⊢
      exact h
    constructor
    · intro at_ runs text ha hr hx
      by_cases hn' : at_ < n
      · have hb := ref_blank fl at_ (by omega) (by omega)
        by_cases hfu : full (ba fl) at_ = true
        · rw [restY, if_pos ⟨hn', hfu⟩]
          rw [hfu] at hb
          refine Ev.step (fun k => by simp only [rootcellarref17_Put.l0]; rw [if_pos (by omega)]) ?_
          refine Ev.bind hb ?_
          refine Ev.congr (fun k => by rw [if_neg (by simp)]) ?_
          refine Ev.step (fun k => by simp only [rootcellarref17_Put.l1]; rw [if_pos (by omega)]) ?_
          refine Ev.bind hb ?_
          refine Ev.congr (fun k => by rw [if_neg (by simp), wadd1 at_ (by omega)]) ?_
          exact ih1 (at_ + 1) at_ runs text (by omega) (by omega) (by omega) (by omega) (by omega)
        · have hfu' : full (ba fl) at_ = false := by simpa using hfu
          rw [restY, if_neg (by rw [hfu']; simp), if_neg (by omega), List.nil_append]
          rw [hfu'] at hb
          refine Ev.step (fun k => by simp only [rootcellarref17_Put.l0]; rw [if_pos (by omega)]) ?_
          refine Ev.bind hb ?_
          refine Ev.congr (fun k => by rw [if_pos (by simp), wadd1 at_ (by omega)]) ?_
          exact ih0 (at_ + 1) runs text (by omega) (by omega) (by omega)
      · have hd0 : d = 0 := by omega
        subst hd0
        rw [restY, if_neg (by omega), if_neg (by omega), List.nil_append, restY]
        simp only [List.length_nil, Nat.add_zero, bodyR, List.flatMap_nil, List.append_nil]
        exact ref_end nm fl t n runs at_ text hnm ht (by omega) (by omega) (by omega) (by omega)
    · intro e f runs text he hf hen hr hx
      by_cases hn' : e < n
      · have hb := ref_blank fl e (by omega) (by omega)
        by_cases hfu : full (ba fl) e = true
        · rw [restY, if_pos ⟨hn', hfu⟩]
          rw [hfu] at hb
          refine Ev.step (fun k => by simp only [rootcellarref17_Put.l1]; rw [if_pos (by omega)]) ?_
          refine Ev.bind hb ?_
          refine Ev.congr (fun k => by rw [if_neg (by simp), wadd1 e (by omega)]) ?_
          exact ih1 (e + 1) f runs text (by omega) (by omega) (by omega) (by omega) (by omega)
        · have hfu' : full (ba fl) e = false := by simpa using hfu
          rw [restY, if_neg (by rw [hfu']; simp), if_pos hf]
          exact ref_emit nm fl t n runs f e text _ hf (by omega) (by omega) (by omega) (by omega) (by omega) (.inr ⟨hn', by omega, hfu'⟩) (emit e f runs text he hf hen hr hx)
      · rw [restY, if_neg (by omega), if_pos hf]
        exact ref_emit nm fl t n runs f e text _ hf (by omega) (by omega) (by omega) (by omega) (by omega) (.inl (by omega)) (emit e f runs text he hf hen hr hx)
/-- What stream.Put tells. -/
def runsT (fl : List UInt8) : List Run := restY (ba fl) (fl.length / 16) (fl.length / 16 + 1) 0 0
def textT (nm : List UInt8) (t : Nat) (fl : List UInt8) : List UInt8 := headT nm t (fl.length / 16) ++ putN (runsT fl).length 1 ++ bodyR (runsT fl)
def putP (nm : List UInt8) (t : Nat) (fl : List UInt8) : ByteArray × Int := if rightP nm fl = true then (ba (sealed (textT nm t fl)), 0) else (ba [], 1)
theorem rightP_flat {nm fl : List UInt8} (h : rightP nm fl = true) : fl.length % 16 = 0 ∧ fl.length ≤ 1024 ∧ 0 < fl.length := by
  unfold rightP at h
  simp only [Bool.and_eq_true, decide_eq_true_eq, beq_iff_eq] at h
  omega
theorem ref_put17 (nm fl : List UInt8) (t : Nat) (hnm : nm.length ≤ 1000) (ht : t < 18446744073709551616) : Ev (fun k => rootcellarref17_Put.f k (ba nm) (t : Int) (ba fl)) (putP nm t fl) := by
  refine Ev.bind (ref_right17 nm fl (t : Int) (by omega)) ?_
  unfold putP
  by_cases hr : rightP nm fl = true
  · obtain ⟨h1, h2, h3⟩ := rightP_flat hr
    rw [if_pos hr]
    have hw : wrap64 (((ba fl).size : Int) / 16) = ((fl.length / 16 : Nat) : Int) := by rw [ba_size, w64 _ (by omega) (by omega)]; omega
    have h := (ref_loop nm fl t (fl.length / 16) hnm ht (by omega) (by omega) (fl.length / 16 + 1) (by omega)).1 0 0 [] (by omega) (by omega) (by simp; omega)
    rw [Nat.zero_add, List.nil_append] at h
    refine Ev.congr (fun k => by rw [if_pos hr, hw]) ?_
    exact h
  · rw [if_neg hr]
    refine Ev.congr (f := fun _ => some (ba [], 1)) (fun k => ?_) (Ev.now _)
    rw [if_neg hr]
    rfl
theorem seal_text (nm fl : List UInt8) (t : Nat) (h1 : nm.length ≤ 1000) (h2 : fl.length ≤ 2000) : (textT nm t fl).length ≤ 1000000 := by
  have h := bodyR_len (runsT fl)
  have h3 : (runsT fl).length ≤ fl.length / 16 + 1 := restY_len _ _ _ _ _
  have h4 : ([114, 99, 115, 116] : List UInt8).length = 4 := rfl
  unfold textT headT
  simp only [List.length_append, putN_length, h4]
  omega
theorem textR_eq (nm fl : List UInt8) (t : Nat) : textR (ba nm) t (ba fl) = ba (textT nm t fl) := by
  unfold textR textT headT runsT
  rw [ba_size, ba_size, ba_list]
theorem stream_put (nm fl : List UInt8) (t : Nat) (hnm : nm.length ≤ 200) (ht : t < 18446744073709551616) : stream_Put.f (ba nm) (t : Int) (ba fl) = some (putP nm t fl) := by
  unfold stream_Put.f putF putP
  rw [stream_right nm fl (t : Int) (by omega), ba_size, ba_size]
  by_cases hr : rightP nm fl = true
  · obtain ⟨h1, h2, h3⟩ := rightP_flat hr
    rw [if_pos ⟨by omega, by omega, h1, by omega, hnm, by rw [hr]⟩, if_pos hr, Int.toNat_natCast, textR_eq, seal_put_eq _ (by have := seal_text nm fl t (by omega) (by omega); omega)]
    rfl
  · have hr' : rightP nm fl = false := by simpa using hr
    rw [if_neg (by rw [hr']; simp), if_pos ⟨by omega, by omega, by rw [hr']⟩, if_neg hr]
    rfl
end Go.Proofs.YtfoniidbkbmjeaaDoor.Pu
end
section
/- Chapter 17's statements on Put, in plain words. -/



namespace Go.Proofs.YtfoniidbkbmjeaaDoor.Pu
open Go Go.Lib Go.RowKit Go.Proofs.YtfoniidbkbmjeaaDoor.Pl Go.Proofs.YtfoniidbkbmjeaaDoor.Lf Go.Proofs.YtfoniidbkbmjeaaDoor.Fn Go.Proofs.YtfoniidbkbmjeaaDoorW.PrintWords
def flatS : List UInt8 := List.replicate 16 0 ++ List.replicate 16 120
theorem shown_text : textT [97] 2 flatS = [114, 99, 115, 116, 2, 2, 0, 0, 0, 0, 0, 0, 0, 1, 97, 1, 1, 1, 120, 120, 120, 120, 120, 120, 120, 120, 120, 120, 120, 120, 120, 120, 120, 120] := by decide +kernel
theorem shown17 : rootcellarlaw17_shown.f = some true := by
  have e1 : (⟨#[97]⟩ : ByteArray) = ba [97] := rfl
  have e2 : strOfNums (List.replicate 16 0) ++ (⟨#[120, 120, 120, 120, 120, 120, 120, 120, 120, 120, 120, 120, 120, 120, 120, 120]⟩ : ByteArray) = ba flatS := by decide +kernel
  have e3 : (strOfNums (List.replicate 16 0)).size = 16 := by decide +kernel
  have hp := stream_put [97] flatS 2 (by decide) (by decide)
  unfold putP at hp
  rw [if_pos (by decide +kernel)] at hp
  have ht := seal_take_eq (sealed (textT [97] 2 flatS)) (by rw [sealed_length, shown_text]; decide)
  rw [unsealed_sealed] at ht
  unfold rootcellarlaw17_shown.f
  rw [if_pos (by decide), Option.bind_some, e3, if_pos (by decide), e1, e2, show (2 : Int) = ((2 : Nat) : Int) from rfl, hp, Option.bind_some, ht, Option.bind_some, if_pos rfl, if_pos rfl, if_pos (by decide), ba_toList, shown_text]
  decide +kernel
theorem streamPuts (nm fl : List UInt8) (t : Nat) (ht : t < 18446744073709551616) : Ev (fun k => rootcellarlaw17_StreamPuts.f k (ba nm) (t : Int) (ba fl)) true := by
  have body : ∀ q : Bool, (q = false → nm.length ≤ 200 ∧ fl.length ≤ 1100) → Ev (fun k => rootcellarlaw17_StreamPuts.j0 k true q (ba nm) (t : Int) (ba fl)) true := by
    intro q hq
    cases q with
    | true =>
      refine Ev.step (f := fun _ => some true) (fun k => ?_) (Ev.now _)
      simp only [rootcellarlaw17_StreamPuts.j0]
      exact if_pos trivial
    | false =>
      obtain ⟨h1, h2⟩ := hq rfl
      refine Ev.step (fun k => by simp only [rootcellarlaw17_StreamPuts.j0]; rw [if_neg (by decide), stream_put nm fl t h1 ht, Option.bind_some, stream_right nm fl (t : Int) (by omega), show rootcellarlaw17_as.f (ba nm) (t : Int) (ba fl) = some (ba nm, (t : Int), ba fl) from rfl, Option.bind_some]) ?_
      refine Ev.bind (ref_put17 nm fl t (by omega) ht) ?_
      refine Ev.congr (fun k => by rw [if_pos rfl, if_pos rfl, Option.bind_some, Option.bind_some]) ?_
      refine Ev.bind (ref_right17 nm fl (t : Int) (by omega)) ?_
      refine Ev.congr (f := fun _ => some true) (fun k => by rw [beq_self_eq_true]) (Ev.now _)
  unfold rootcellarlaw17_StreamPuts.f
  rw [shown17]
  refine Ev.congr (fun k => by rw [Option.bind_some, if_pos rfl, ba_size, ba_size]) ?_
  by_cases h1 : nm.length > 200
  · refine Ev.congr (fun k => by rw [if_pos (by omega)]) (body true (by simp))
  · refine Ev.congr (fun k => by rw [if_neg (by omega)]) (body _ (fun h => ⟨by omega, by have := of_decide_eq_false h; omega⟩))
theorem StreamPuts (a : ByteArray) (b : Int) (c : ByteArray) (hb : 0 ≤ b ∧ b < 18446744073709551616) : ∃ k, rootcellarlaw17_StreamPuts.f k a b c = some true := by
  obtain ⟨nm, rfl⟩ := ex_ba a
  obtain ⟨fl, rfl⟩ := ex_ba c
  obtain ⟨t, rfl⟩ : ∃ t : Nat, b = (t : Int) := ⟨b.toNat, by omega⟩
  exact (streamPuts nm fl t (by omega)).rounds
end Go.Proofs.YtfoniidbkbmjeaaDoor.Pu
end
