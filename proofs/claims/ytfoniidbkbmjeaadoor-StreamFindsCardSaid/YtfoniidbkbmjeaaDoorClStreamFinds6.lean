-- Packed by pack.py, a program of this session, out of texts of this claim.
import Derived.Test.YtfoniidbkbmjeaaDoorClStreamFinds3
import Derived.Test.YtfoniidbkbmjeaaDoorClStreamFinds4
import Derived.Test.YtfoniidbkbmjeaaDoorClStreamFinds1
import Derived.Test.YtfoniidbkbmjeaaDoorClStreamFinds2
import Derived.Test.YtfoniidbkbmjeaaDoorPlBurst
import Derived.Test.YtfoniidbkbmjeaaDoorClStreamFinds5
section
/- stream.Put and the reference to it, in plain words. -/



namespace Go.Proofs.YtfoniidbkbmjeaaDoor.Pu
open Go Go.Lib Go.RowKit Go.Proofs.YtfoniidbkbmjeaaDoor.Pl Go.Proofs.YtfoniidbkbmjeaaDoor.Lf Go.Proofs.YtfoniidbkbmjeaaDoor.Fn Go.Proofs.YtfoniidbkbmjeaaDoorW.PrintWords
def rightP (nm fl : List UInt8) : Bool := rightB nm && (decide (0 < fl.length) && (decide (fl.length ≤ 1024) && (fl.length % 16 == 0)))
theorem mod16 (n : Nat) : (((n : Int) % 16) == 0) = (n % 16 == 0) := by
  rw [Bool.eq_iff_iff]; simp; omega
theorem stream_right (nm fl : List UInt8) (t : Int) (hn : nm.length ≤ 1000000000) : stream_Right.f (ba nm) t (ba fl) = some (rightP nm fl) := by
  unfold stream_Right.f rightP
  rw [right_eq nm hn, Option.bind_some, ba_size]
  cases rightB nm
  · rfl
  · by_cases h0 : 0 < fl.length
    · by_cases h1 : fl.length ≤ 1024
      · rw [if_pos rfl, if_pos (by omega), if_pos (by omega), decide_eq_true h0, decide_eq_true h1, mod16]; rfl
      · rw [if_pos rfl, if_pos (by omega), if_neg (by omega), decide_eq_false h1]; simp
    · rw [if_pos rfl, if_neg (by omega), decide_eq_false h0]; simp
theorem ref_right17 (nm fl : List UInt8) (t : Int) (hn : nm.length ≤ 1000000000) : Ev (fun k => rootcellarref17_Right.f k (ba nm) t (ba fl)) (rightP nm fl) := by
  refine Ev.bind (ref_right nm hn) ?_
  refine Ev.congr (f := fun _ => some (rightP nm fl)) (fun k => ?_) (Ev.now _)
  unfold rightP
  rw [ba_size]
  cases rightB nm
  · rfl
  · by_cases h0 : 16 ≤ fl.length
    · by_cases h1 : fl.length ≤ 1024
      · rw [if_pos rfl, if_pos (by omega), if_pos (by omega), decide_eq_true (by omega), decide_eq_true h1, mod16]; rfl
      · rw [if_pos rfl, if_pos (by omega), if_neg (by omega), decide_eq_false h1]; simp
    · rw [if_pos rfl, if_neg (by omega)]
      by_cases h2 : 0 < fl.length
      · rw [show (fl.length % 16 == 0) = false by simp; omega]; simp
      · rw [decide_eq_false h2]; simp
theorem full_eq (fl : List UInt8) (i : Nat) : full (ba fl) i = ((fl.drop (16 * i)).take 16 != List.replicate 16 0) := by
  unfold full
  rw [ba_extract, ba_toList, show 16 * i + 16 - 16 * i = 16 by omega]
theorem all_rep (L : List UInt8) (n : Nat) (h : L.length = n) : L.all (· == 0) = (L == List.replicate n 0) := by
  rw [Bool.eq_iff_iff, List.all_eq_true, beq_iff_eq, List.eq_replicate_iff]
  constructor
  · exact fun hh => ⟨h, fun b hb => by simpa using hh b hb⟩
  · exact fun hh b hb => by simpa using hh.2 b hb
theorem ref_blank_l (fl : List UInt8) (i : Nat) (hl : fl.length ≤ 2000) (h : 16 * i + 16 ≤ fl.length) : ∀ (d j : Nat), j + d = 16 →
    Ev (fun k => rootcellarref17_blank.l0 k (ba fl) (i : Int) ((16 * i + j : Nat) : Int)) (((fl.drop (16 * i + j)).take d).all (· == 0)) := by
  intro d
  induction d with
  | zero =>
    intro j hj
    refine Ev.step (f := fun _ => some true) (fun k => ?_) (Ev.now _)
    simp only [rootcellarref17_blank.l0]
    rw [w64 (16 * (i : Int)) (by omega) (by omega), w64 _ (by omega) (by omega), if_neg (by omega)]
  | succ d ih =>
    intro j hj
    have hlt : 16 * i + j < fl.length := by omega
    have hb := bt_ba fl (16 * i + j) hlt
    rw [List.drop_eq_getElem_cons hlt, List.take_succ_cons, List.all_cons]
    by_cases hz : (fl[16 * i + j]'hlt).toNat = 0
    · have hz2 : (fl[16 * i + j]'hlt == 0) = true := by
        rw [beq_iff_eq]; exact UInt8.toNat_inj.1 (by simpa using hz)
      rw [hz2, Bool.true_and]
      refine Ev.step (fun k => ?_) (ih (j + 1) (by omega))
      simp only [rootcellarref17_blank.l0]
      rw [w64 (16 * (i : Int)) (by omega) (by omega), w64 _ (by omega) (by omega), if_pos (by omega), if_pos (by omega), ba_size, if_pos (by omega), hb, hz, if_pos (by omega), w64 _ (by omega) (by omega)]
      rfl
    · have hz2 : (fl[16 * i + j]'hlt == 0) = false := by
        rw [beq_eq_false_iff_ne]; intro e; rw [e] at hz; exact hz rfl
      rw [hz2, Bool.false_and]
      refine Ev.step (f := fun _ => some false) (fun k => ?_) (Ev.now _)
      simp only [rootcellarref17_blank.l0]
      rw [w64 (16 * (i : Int)) (by omega) (by omega), w64 _ (by omega) (by omega), if_pos (by omega), if_pos (by omega), ba_size, if_pos (by omega), hb, if_neg (by omega)]
theorem ref_blank (fl : List UInt8) (i : Nat) (hl : fl.length ≤ 2000) (h : 16 * i + 16 ≤ fl.length) : Ev (fun k => rootcellarref17_blank.f k (ba fl) (i : Int)) (!full (ba fl) i) := by
  have hh := ref_blank_l fl i hl h 16 0 rfl
  rw [all_rep _ 16 (by rw [List.length_take, List.length_drop]; omega)] at hh
  have e : (!full (ba fl) i) = ((fl.drop (16 * i + 0)).take 16 == List.replicate 16 0) := by
    rw [full_eq, Nat.add_zero, bne, Bool.not_not]
  rw [e]
  refine Ev.congr (fun k => ?_) hh
  unfold rootcellarref17_blank.f
  rw [w64 _ (by omega) (by omega)]
  rfl
/-- The text ahead of the runs. -/
def headT (nm : List UInt8) (t n : Nat) : List UInt8 := [114, 99, 115, 116] ++ putN n 1 ++ putN t 8 ++ putN nm.length 1 ++ nm
def finT (nm : List UInt8) (t n runs : Nat) (text : List UInt8) : ByteArray × Int := (ba (sealed (headT nm t n ++ putN runs 1 ++ text)), 0)
theorem lit4 : (⟨#[114, 99, 115, 116]⟩ : ByteArray) = ba [114, 99, 115, 116] := rfl
theorem ref_end (nm fl : List UInt8) (t n runs at_ : Nat) (text : List UInt8) (hnm : nm.length ≤ 1000) (ht : t < 18446744073709551616) (hn : n ≤ at_) (ha : at_ ≤ 100) (hr : runs ≤ 1000) (hx : text.length ≤ 1000000) :
    Ev (fun k => rootcellarref17_Put.l0 k (n : Int) (runs : Int) (ba text) (at_ : Int) (ba nm) (t : Int) (ba fl)) (finT nm t n runs text) := by
  have h4 : ([114, 99, 115, 116] : List UInt8).length = 4 := rfl
  refine Ev.step (fun k => by simp only [rootcellarref17_Put.l0]; rw [if_neg (by omega), u64_nat n (by omega)]) ?_
  refine Ev.bind (ref_put1 n (by omega)) ?_
  refine Ev.congr (fun k => by rw [ba_size, putN_length, if_pos (by omega)]) ?_
  refine Ev.bind (ref_put8 t ht) ?_
  refine Ev.congr (fun k => by rw [lit4, ba_size, ba_size, ba_size, putN_length, h4, if_pos (by omega), u64_nat nm.length (by omega)]) ?_
  refine Ev.bind (ref_put1 nm.length (by omega)) ?_
  refine Ev.congr (fun k => by rw [ba_size, ba_size, putN_length, if_pos (by omega), if_pos (by omega), u64_nat runs (by omega)]) ?_
  refine Ev.bind (ref_put1 runs (by omega)) ?_
  refine Ev.congr (fun k => by rw [ba_size, putN_length, if_pos (by omega), if_pos (by omega)]) ?_
  simp only [ba_append]
  have hs : (headT nm t n ++ putN runs 1 ++ text).length ≤ 1000000000 := by
    unfold headT
    simp only [List.length_append, putN_length, h4]
    omega
  exact Ev.bind (ref_seal_put _ hs) (Ev.now _)
theorem wsub (f e : Nat) (h : f ≤ e) (he : e ≤ 1000) : wrap64 ((e : Int) - (f : Int)) = ((e - f : Nat) : Int) := by rw [w64 _ (by omega) (by omega)]; omega
theorem wmul16 (f : Nat) (h : f ≤ 1000) : wrap64 (16 * (f : Int)) = ((16 * f : Nat) : Int) := by rw [w64 _ (by omega) (by omega)]; omega
theorem wadd1 (n : Nat) (h : n ≤ 1000000) : wrap64 ((n : Int) + 1) = ((n + 1 : Nat) : Int) := by rw [w64 _ (by omega) (by omega)]; omega
/-- One run told. -/
theorem ref_emit (nm fl : List UInt8) (t n runs f e : Nat) (text : List UInt8) (R : ByteArray × Int) (hf : f < e) (he : e ≤ 64) (hl : 16 * e ≤ fl.length) (hfl : fl.length ≤ 2000) (hr : runs ≤ 1000) (hx : text.length ≤ 1000000)
    (hc : n ≤ e ∨ (e < n ∧ 16 * e + 16 ≤ fl.length ∧ full (ba fl) e = false))
    (h : Ev (fun k => rootcellarref17_Put.l0 k (n : Int) ((runs + 1 : Nat) : Int) (ba (text ++ putN f 1 ++ putN (e - f) 1 ++ (fl.drop (16 * f)).take (16 * e - 16 * f))) ((e + 1 : Nat) : Int) (ba nm) (t : Int) (ba fl)) R) :
    Ev (fun k => rootcellarref17_Put.l1 k (n : Int) (runs : Int) (ba text) (f : Int) (e : Int) (ba nm) (t : Int) (ba fl)) R := by
  have hz : text.length + 1 + 1 + ((fl.drop (16 * f)).take (16 * e - 16 * f)).length ≤ 9223372036854775807 := by rw [List.length_take, List.length_drop]; omega
  rcases hc with hc | ⟨hc, hc2, hc3⟩
  · refine Ev.step (fun k => by simp only [rootcellarref17_Put.l1]; rw [if_neg (by omega), wsub f e (by omega) (by omega), wmul16 f (by omega), wmul16 e (by omega), wadd1 runs (by omega), wadd1 e (by omega), u64_nat f (by omega), u64_nat (e - f) (by omega), Int.toNat_natCast, Int.toNat_natCast, ba_extract]) ?_
    refine Ev.bind (ref_put1 f (by omega)) ?_
    refine Ev.congr (fun k => by rw [ba_size, ba_size, putN_length, if_pos (by omega)]) ?_
    refine Ev.bind (ref_put1 (e - f) (by omega)) ?_
    refine Ev.congr (fun k => by rw [ba_size, putN_length, if_pos (by omega), if_pos (by omega), if_pos (by omega), ba_size, if_pos (by omega), ba_size, if_pos hz]) ?_
    simp only [ba_append]
    exact h
  · have hb := ref_blank fl e hfl hc2
    rw [hc3] at hb
    refine Ev.step (fun k => by simp only [rootcellarref17_Put.l1]; rw [if_pos (by omega)]) ?_
    refine Ev.bind hb ?_
    refine Ev.congr (fun k => by rw [if_pos (by simp), wsub f e (by omega) (by omega), wmul16 f (by omega), wmul16 e (by omega), wadd1 runs (by omega), wadd1 e (by omega), u64_nat f (by omega), u64_nat (e - f) (by omega), Int.toNat_natCast, Int.toNat_natCast, ba_extract]) ?_
    refine Ev.bind (ref_put1 f (by omega)) ?_
    refine Ev.congr (fun k => by rw [ba_size, ba_size, putN_length, if_pos (by omega)]) ?_
    refine Ev.bind (ref_put1 (e - f) (by omega)) ?_
    refine Ev.congr (fun k => by rw [ba_size, putN_length, if_pos (by omega), if_pos (by omega), if_pos (by omega), ba_size, if_pos (by omega), ba_size, if_pos hz]) ?_
    simp only [ba_append]
    exact h
theorem body_run (fl : List UInt8) (f e : Nat) (rest : List Run) (hf : f < e) (he : e ≤ 64) (hl : 16 * e ≤ fl.length) : bodyR (mkRun f ((ba fl).extract (16 * f) (16 * e)) :: rest) = putN f 1 ++ putN (e - f) 1 ++ (fl.drop (16 * f)).take (16 * e - 16 * f) ++ bodyR rest := by
  have hz : ((ba fl).extract (16 * f) (16 * e)).size = 16 * (e - f) := by rw [ba_extract, ba_size, List.length_take, List.length_drop]; omega
  have h := mkRun_val f ((ba fl).extract (16 * f) (16 * e)) ⟨by omega, by omega⟩
  unfold bodyR
  rw [List.flatMap_cons, h]
  simp only
  rw [hz, show 16 * (e - f) / 16 = e - f by omega, ba_extract, ba_list]
theorem ref_loop (nm fl : List UInt8) (t n : Nat) (hnm : nm.length ≤ 1000) (ht : t < 18446744073709551616) (hn : n ≤ 64) (hfl : fl.length = 16 * n) : ∀ d : Nat, d ≤ 65 →
    (∀ (at_ runs : Nat) (text : List UInt8), at_ + d = n + 1 → runs + d ≤ 100 → text.length + 1100 * d ≤ 100000 →
      Ev (fun k => rootcellarref17_Put.l0 k (n : Int) (runs : Int) (ba text) (at_ : Int) (ba nm) (t : Int) (ba fl)) (finT nm t n (runs + (restY (ba fl) n d at_ at_).length) (text ++ bodyR (restY (ba fl) n d at_ at_)))) ∧
    (∀ (e f runs : Nat) (text : List UInt8), e + d = n + 1 → f < e → e ≤ n → runs + d ≤ 100 → text.length + 1100 * d ≤ 100000 →
      Ev (fun k => rootcellarref17_Put.l1 k (n : Int) (runs : Int) (ba text) (f : Int) (e : Int) (ba nm) (t : Int) (ba fl)) (finT nm t n (runs + (restY (ba fl) n d e f).length) (text ++ bodyR (restY (ba fl) n d e f)))) := by
  intro d
  induction d with
  | zero =>
    intro _
    refine ⟨fun at_ runs text ha hr hx => ?_, fun e f runs text he hf hen => by omega⟩
    rw [restY]
    simp only [List.length_nil, Nat.add_zero, bodyR, List.flatMap_nil, List.append_nil]
    exact ref_end nm fl t n runs at_ text hnm ht (by omega) (by omega) (by omega) (by omega)
  | succ d ih =>
    intro hd
    obtain ⟨ih0, ih1⟩ := ih (by omega)
    have emit : ∀ (e f runs : Nat) (text : List UInt8), e + (d + 1) = n + 1 → f < e → e ≤ n → runs + (d + 1) ≤ 100 → text.length + 1100 * (d + 1) ≤ 100000 →
        Ev (fun k => rootcellarref17_Put.l0 k (n : Int) ((runs + 1 : Nat) : Int) (ba (text ++ putN f 1 ++ putN (e - f) 1 ++ (fl.drop (16 * f)).take (16 * e - 16 * f))) ((e + 1 : Nat) : Int) (ba nm) (t : Int) (ba fl))
          (finT nm t n (runs + ([mkRun f ((ba fl).extract (16 * f) (16 * e))] ++ restY (ba fl) n d (e + 1) (e + 1)).length) (text ++ bodyR ([mkRun f ((ba fl).extract (16 * f) (16 * e))] ++ restY (ba fl) n d (e + 1) (e + 1)))) := by
      intro e f runs text he hf hen hr hx
      have h := ih0 (e + 1) (runs + 1) (text ++ putN f 1 ++ putN (e - f) 1 ++ (fl.drop (16 * f)).take (16 * e - 16 * f)) (by omega) (by omega) (by simp only [List.length_append, putN_length, List.length_take, List.length_drop]; omega)
      rw [List.singleton_append, body_run fl f e _ hf (by omega) (by omega), List.length_cons, show runs + ((restY (ba fl) n d (e + 1) (e + 1)).length + 1) = runs + 1 + (restY (ba fl) n d (e + 1) (e + 1)).length by omega]
      simp only [List.append_assoc] at h ⊢
      exact h
    constructor
    · intro at_ runs text ha hr hx
      by_cases hn' : at_ < n
      · have hb := ref_blank fl at_ (by omega) (by omega)
        by_cases hfu : full (ba fl) at_ = true
        · rw [restY, if_pos ⟨hn', hfu⟩]
          rw [hfu] at hb
          refine Ev.step (fun k => by simp only [rootcellarref17_Put.l0]; rw [if_pos (by omega)]) ?_
          refine Ev.bind hb ?_
          refine Ev.congr (fun k => by rw [if_neg (by simp)]) ?_
          refine Ev.step (fun k => by simp only [rootcellarref17_Put.l1]; rw [if_pos (by omega)]) ?_
          refine Ev.bind hb ?_
          refine Ev.congr (fun k => by rw [if_neg (by simp), wadd1 at_ (by omega)]) ?_
          exact ih1 (at_ + 1) at_ runs text (by omega) (by omega) (by omega) (by omega) (by omega)
        · have hfu' : full (ba fl) at_ = false := by simpa using hfu
          rw [restY, if_neg (by rw [hfu']; simp), if_neg (by omega), List.nil_append]
          rw [hfu'] at hb
          refine Ev.step (fun k => by simp only [rootcellarref17_Put.l0]; rw [if_pos (by omega)]) ?_
          refine Ev.bind hb ?_
          refine Ev.congr (fun k => by rw [if_pos (by simp), wadd1 at_ (by omega)]) ?_
          exact ih0 (at_ + 1) runs text (by omega) (by omega) (by omega)
      · have hd0 : d = 0 := by omega
        subst hd0
        rw [restY, if_neg (by omega), if_neg (by omega), List.nil_append, restY]
        simp only [List.length_nil, Nat.add_zero, bodyR, List.flatMap_nil, List.append_nil]
        exact ref_end nm fl t n runs at_ text hnm ht (by omega) (by omega) (by omega) (by omega)
    · intro e f runs text he hf hen hr hx
      by_cases hn' : e < n
      · have hb := ref_blank fl e (by omega) (by omega)
        by_cases hfu : full (ba fl) e = true
        · rw [restY, if_pos ⟨hn', hfu⟩]
          rw [hfu] at hb
          refine Ev.step (fun k => by simp only [rootcellarref17_Put.l1]; rw [if_pos (by omega)]) ?_
          refine Ev.bind hb ?_
          refine Ev.congr (fun k => by rw [if_neg (by simp), wadd1 e (by omega)]) ?_
          exact ih1 (e + 1) f runs text (by omega) (by omega) (by omega) (by omega) (by omega)
        · have hfu' : full (ba fl) e = false := by simpa using hfu
          rw [restY, if_neg (by rw [hfu']; simp), if_pos hf]
          exact ref_emit nm fl t n runs f e text _ hf (by omega) (by omega) (by omega) (by omega) (by omega) (.inr ⟨hn', by omega, hfu'⟩) (emit e f runs text he hf hen hr hx)
      · rw [restY, if_neg (by omega), if_pos hf]
        exact ref_emit nm fl t n runs f e text _ hf (by omega) (by omega) (by omega) (by omega) (by omega) (.inl (by omega)) (emit e f runs text he hf hen hr hx)
/-- What stream.Put tells. -/
def runsT (fl : List UInt8) : List Run := restY (ba fl) (fl.length / 16) (fl.length / 16 + 1) 0 0
def textT (nm : List UInt8) (t : Nat) (fl : List UInt8) : List UInt8 := headT nm t (fl.length / 16) ++ putN (runsT fl).length 1 ++ bodyR (runsT fl)
def putP (nm : List UInt8) (t : Nat) (fl : List UInt8) : ByteArray × Int := if rightP nm fl = true then (ba (sealed (textT nm t fl)), 0) else (ba [], 1)
theorem rightP_flat {nm fl : List UInt8} (h : rightP nm fl = true) : fl.length % 16 = 0 ∧ fl.length ≤ 1024 ∧ 0 < fl.length := by
  unfold rightP at h
  simp only [Bool.and_eq_true, decide_eq_true_eq, beq_iff_eq] at h
  omega
theorem ref_put17 (nm fl : List UInt8) (t : Nat) (hnm : nm.length ≤ 1000) (ht : t < 18446744073709551616) : Ev (fun k => rootcellarref17_Put.f k (ba nm) (t : Int) (ba fl)) (putP nm t fl) := by
  refine Ev.bind (ref_right17 nm fl (t : Int) (by omega)) ?_
  unfold putP
  by_cases hr : rightP nm fl = true
  · obtain ⟨h1, h2, h3⟩ := rightP_flat hr
    rw [if_pos hr]
    have hw : wrap64 (((ba fl).size : Int) / 16) = ((fl.length / 16 : Nat) : Int) := by rw [ba_size, w64 _ (by omega) (by omega)]; omega
    have h := (ref_loop nm fl t (fl.length / 16) hnm ht (by omega) (by omega) (fl.length / 16 + 1) (by omega)).1 0 0 [] (by omega) (by omega) (by simp; omega)
    rw [Nat.zero_add, List.nil_append] at h
    refine Ev.congr (fun k => by rw [if_pos hr, hw]) ?_
    exact h
  · rw [if_neg hr]
    refine Ev.congr (f := fun _ => some (ba [], 1)) (fun k => ?_) (Ev.now _)
    rw [if_neg hr]
    rfl
theorem seal_text (nm fl : List UInt8) (t : Nat) (h1 : nm.length ≤ 1000) (h2 : fl.length ≤ 2000) : (textT nm t fl).length ≤ 1000000 := by
  have h := bodyR_len (runsT fl)
  have h3 : (runsT fl).length ≤ fl.length / 16 + 1 := restY_len _ _ _ _ _
  have h4 : ([114, 99, 115, 116] : List UInt8).length = 4 := rfl
  unfold textT headT
  simp only [List.length_append, putN_length, h4]
  omega
theorem textR_eq (nm fl : List UInt8) (t : Nat) : textR (ba nm) t (ba fl) = ba (textT nm t fl) := by
  unfold textR textT headT runsT
  rw [ba_size, ba_size, ba_list]
theorem stream_put (nm fl : List UInt8) (t : Nat) (hnm : nm.length ≤ 200) (ht : t < 18446744073709551616) : stream_Put.f (ba nm) (t : Int) (ba fl) = some (putP nm t fl) := by
  unfold stream_Put.f putF putP
  rw [stream_right nm fl (t : Int) (by omega), ba_size, ba_size]
  by_cases hr : rightP nm fl = true
  · obtain ⟨h1, h2, h3⟩ := rightP_flat hr
    rw [if_pos ⟨by omega, by omega, h1, by omega, hnm, by rw [hr]⟩, if_pos hr, Int.toNat_natCast, textR_eq, seal_put_eq _ (by have := seal_text nm fl t (by omega) (by omega); omega)]
    rfl
  · have hr' : rightP nm fl = false := by simpa using hr
    rw [if_neg (by rw [hr']; simp), if_pos ⟨by omega, by omega, by rw [hr']⟩, if_neg hr]
    rfl
end Go.Proofs.YtfoniidbkbmjeaaDoor.Pu
end
section
/- stream.Take in plain words: it tells the snapshot of a text that Put tells, and of no other. -/



namespace Go.Proofs.YtfoniidbkbmjeaaDoor.Pu
open Go Go.Lib Go.RowKit Go.Proofs.YtfoniidbkbmjeaaDoor.Pl Go.Proofs.YtfoniidbkbmjeaaDoor.Lf Go.Proofs.YtfoniidbkbmjeaaDoor.Fn Go.Proofs.YtfoniidbkbmjeaaDoorW.PrintWords
theorem width4 (l : List UInt8) : (decodeL l).2 ≤ 4 := by
  rw [decodeL_N]
  unfold decodeN
  repeat' split
  all_goals simp
theorem runes_wide (l : List UInt8) : l.length ≤ 4 * (runes l).length := by
  induction hn : l.length using Nat.strongRecOn generalizing l with
  | _ n ih =>
    by_cases e : l = []
    · subst e; simp at hn; omega
    · have hs := drop_short l e
      have h4 := width4 l
      rw [runes_cons l e, List.length_cons]
      have := ih (l.drop (decodeL l).2).length (by omega) (l.drop (decodeL l).2) rfl
      rw [List.length_drop] at this hs
      omega
theorem rightB_len {l : List UInt8} (h : rightB l = true) : l.length ≤ 96 ∧ 0 < l.length := by
  unfold rightB at h
  simp only [Bool.and_eq_true, decide_eq_true_eq] at h
  obtain ⟨_, _, h1, h2, _⟩ := h
  have := runes_wide l
  refine ⟨by omega, ?_⟩
  cases l with
  | nil => simp at h1
  | cons c r => simp
theorem rightP_name {nm fl : List UInt8} (h : rightP nm fl = true) : nm.length ≤ 96 := by
  unfold rightP at h
  rw [Bool.and_eq_true] at h
  exact (rightB_len h.1).1
theorem stream_put' (nm fl : List UInt8) (t : Nat) (hnm : nm.length ≤ 1000) (ht : t < 18446744073709551616) : stream_Put.f (ba nm) (t : Int) (ba fl) = some (putP nm t fl) := by
  by_cases hr : rightP nm fl = true
  · exact stream_put nm fl t (by have := rightP_name hr; omega) ht
  · have hr' : rightP nm fl = false := by simpa using hr
    unfold stream_Put.f putF putP
    rw [stream_right nm fl (t : Int) (by omega), if_neg (by rw [hr']; simp), if_pos ⟨by omega, by omega, by rw [hr']⟩, if_neg hr]
    rfl
theorem noughts_eq (n : Nat) (h : n ≤ 1000000) : stream_noughts.f (n : Int) = some (ba (List.replicate (16 * n) 0)) := by
  unfold stream_noughts.f
  rw [if_pos ⟨by omega, by omega⟩, Int.toNat_natCast]
/-- A text that is taken, or refused. -/
abbrev SnapR := ByteArray × Int × ByteArray × Int
def refusedR (e : Int) : SnapR := (ba [], 0, ba [], e)
def IsPut (t0 nm : List UInt8) (t : Nat) (fl : List UInt8) : Prop := t < 18446744073709551616 ∧ nm.length ≤ 1000 ∧ putP nm t fl = (ba t0, 0)
def Ends2 (t0 : List UInt8) (R : SnapR) : Prop := R = refusedR 2 ∨ ∃ (nm : List UInt8) (t : Nat) (fl : List UInt8), R = (ba nm, (t : Int), ba fl, 0) ∧ IsPut t0 nm t fl
theorem take_end (t0 nm fl : List UInt8) (t : Nat) (q : Bool) (hnm : nm.length ≤ 1000) (ht : t < 18446744073709551616) :
    Ev (fun k => stream_Take.j2 k (ba t0) q (ba nm) (t : Int) (ba fl)) (if q = false ∧ putP nm t fl = (ba t0, 0) then (ba nm, (t : Int), ba fl, 0) else refusedR 2) := by
  cases q with
  | true =>
    refine Ev.step (f := fun _ => some (refusedR 2)) (fun k => ?_) (by rw [if_neg (by simp)]; exact Ev.now _)
    simp only [stream_Take.j2]
    rw [if_pos trivial]
    rfl
  | false =>
    refine Ev.step (f := fun _ => some _) (fun k => ?_) (Ev.now _)
    simp only [stream_Take.j2]
    rw [if_neg (by decide), stream_put' nm fl t hnm ht, Option.bind_some]
    unfold putP
    by_cases hr : rightP nm fl = true
    · rw [if_pos hr]
      simp only [if_true, ba_toList]
      by_cases he : sealed (textT nm t fl) = t0
      · rw [if_pos he, he, if_pos ⟨trivial, rfl⟩]
      · rw [if_neg he, if_neg (by rintro ⟨_, h⟩; exact he (ba_inj (Prod.mk.inj h).1))]
        rfl
    · rw [if_neg hr]
      simp only
      rw [if_neg (by decide), if_neg (by rintro ⟨_, h⟩; exact absurd (Prod.mk.inj h).2 (by decide))]
      rfl
theorem take_end_any (t0 nm fl : List UInt8) (t : Nat) (q : Bool) (hnm : nm.length ≤ 1000) (ht : t < 18446744073709551616) :
    ∃ R, Ends2 t0 R ∧ Ev (fun k => stream_Take.j2 k (ba t0) q (ba nm) (t : Int) (ba fl)) R := by
  refine ⟨_, ?_, take_end t0 nm fl t q hnm ht⟩
  split
  · rename_i h
    exact .inr ⟨nm, t, fl, rfl, ht, hnm, h.2⟩
  · exact .inl rfl
theorem mx_pos (a : Int) : 0 ≤ mx a 0 := by unfold mx; split <;> omega
theorem mx_le (a b : Int) (h : a ≤ b) (hb : 0 ≤ b) : mx a 0 ≤ b := by unfold mx; split <;> omega
theorem over_eq (l : List UInt8) (b : Bool) : le_Reader_Over.f (ba l) b = some (decide (l = []) && !b, ba l, b) := by
  unfold le_Reader_Over.f
  rw [ba_toList]
  by_cases h : l = []
  · rw [if_pos h, decide_eq_true h]; rfl
  · rw [if_neg h, decide_eq_false h]; rfl
theorem w64n (n : Nat) (h : n < 1000000) : wrap64 (n : Int) = (n : Int) := w64 _ (by omega) (by omega)
theorem wm16 (n : Nat) (h : n < 1000000) : wrap64 ((n : Int) * 16) = ((n * 16 : Nat) : Int) := by rw [w64 _ (by omega) (by omega)]; omega
theorem wsum (a b : Nat) (ha : a < 1000000) (hb : b < 1000000) : wrap64 ((a : Int) + (b : Int)) = (a : Int) + (b : Int) := w64 _ (by omega) (by omega)
theorem wadd1' (n : Nat) (h : n ≤ 1000000) : wrap64 ((n : Int) + 1) = ((n + 1 : Nat) : Int) := by rw [w64 _ (by omega) (by omega)]; omega
theorem wdiv (fl : List UInt8) (q : Nat) (hq : fl.length = 16 * q) (h : q < 1000000) : wrap64 (((ba fl).size : Int) / 16) = (q : Int) := by rw [ba_size, w64 _ (by omega) (by omega)]; omega
theorem wgap (fl : List UInt8) (v q : Nat) (hq : fl.length = 16 * q) (h : v < 1000000) (hv : q ≤ v) : wrap64 ((v : Int) - wrap64 (((ba fl).size : Int) / 16)) = ((v - q : Nat) : Int) := by
  rw [wdiv fl q hq (by omega), w64 _ (by omega) (by omega)]; omega
theorem tail_z (fl : List UInt8) (n q : Nat) (hq : fl.length = 16 * q) (hn : n < 256) (h : q < 1000000) : ∃ z : Nat, z ≤ 256 ∧ mx (wrap64 ((n : Int) - wrap64 (((ba fl).size : Int) / 16))) 0 = (z : Int) := by
  have h1 := mx_le (wrap64 ((n : Int) - (q : Int))) 256 (by rw [w64 _ (by omega) (by omega)]; omega) (by omega)
  have h2 := mx_pos (wrap64 ((n : Int) - (q : Int)))
  rw [wdiv fl q hq h]
  generalize mx (wrap64 ((n : Int) - (q : Int))) 0 = z at h1 h2
  exact ⟨z.toNat, by omega, by omega⟩
/-- Whatever is left, the loop comes to an end. -/
theorem take_loop (t0 nm name : List UInt8) (t n : Nat) (hn : n < 256) (hnm : nm.length ≤ 1000) (ht : t < 18446744073709551616) (m : Nat) (hm : m < 256) :
    ∀ (d i : Nat) (at_ : Int) (left : List UInt8) (bad : Bool) (fl : List UInt8) (q : Nat), i + d = m → fl.length = 16 * q → -1 ≤ at_ → at_ ≤ 510 → ((q : Int) ≤ at_ ∨ q = 0) →
      ∃ R, Ends2 t0 R ∧ Ev (fun k => stream_Take.l0 k (ba t0) (ba name) (n : Int) at_ (m : Int) (i : Int) (ba left) bad (ba nm) (t : Int) (ba fl)) R := by
  intro d
  induction d with
  | zero =>
    intro i at_ left bad fl q hi hq h0 h1 h2
    obtain ⟨z, hz2, hz⟩ := tail_z fl n q hq hn (by omega)
    have fin : ∀ b : Bool, ∃ R, Ends2 t0 R ∧ Ev (fun k => stream_Take.j2 k (ba t0) b (ba nm) (t : Int) (ba (fl ++ List.replicate (16 * z) 0))) R := fun b => take_end_any t0 nm _ t b hnm ht
    by_cases ho : (decide (left = []) && !bad) = true
    · by_cases hx : name = [114, 99, 115, 116]
      · obtain ⟨R, hR, hE⟩ := fin (((ba (fl ++ List.replicate (16 * z) 0)).size : Int) != wrap64 ((n : Int) * 16))
        refine ⟨R, hR, Ev.step (fun k => ?_) hE⟩
        simp only [stream_Take.l0]
        rw [if_neg (by omega), hz, noughts_eq z (by omega), Option.bind_some, ba_size, ba_size, List.length_replicate, if_pos (by omega), over_eq, Option.bind_some, ba_append, ba_toList]
        simp only
        rw [if_pos ho, if_pos hx]
      · obtain ⟨R, hR, hE⟩ := fin true
        refine ⟨R, hR, Ev.step (fun k => ?_) hE⟩
        simp only [stream_Take.l0]
        rw [if_neg (by omega), hz, noughts_eq z (by omega), Option.bind_some, ba_size, ba_size, List.length_replicate, if_pos (by omega), over_eq, Option.bind_some, ba_append, ba_toList]
        simp only
        rw [if_pos ho, if_neg hx]
    · obtain ⟨R, hR, hE⟩ := fin true
      refine ⟨R, hR, Ev.step (fun k => ?_) hE⟩
      simp only [stream_Take.l0]
      rw [if_neg (by omega), hz, noughts_eq z (by omega), Option.bind_some, ba_size, ba_size, List.length_replicate, if_pos (by omega), over_eq, Option.bind_some, ba_append]
      simp only
      rw [if_neg ho]
  | succ d ih =>
    intro i at_ left bad fl q hi hq h0 h1 h2
    have a1 := num_all left bad 1 (by omega)
    have b1 := numP_lt left bad 1
    generalize numP left bad 1 = N1 at a1 b1
    obtain ⟨v1, l1, c1⟩ := N1
    have a2 := num_all l1 c1 1 (by omega)
    have b2 := numP_lt l1 c1 1
    generalize numP l1 c1 1 = N2 at a2 b2
    obtain ⟨v2, l2, c2⟩ := N2
    simp only at a1 a2 b1 b2
    have b1' : v1 < 1000000 := by omega
    have b2' : v2 < 1000000 := by omega
    have stop : ∀ x12 x13 : Int, Ev (fun k => stream_Take.j1 k (ba t0) (ba name) (n : Int) x12 x13 (m : Int) (i : Int) true (ba l2) c2 (ba nm) (t : Int) (ba fl)) (refusedR 2) := by
      intro x12 x13
      refine Ev.step (f := fun _ => some (refusedR 2)) (fun k => ?_) (Ev.now _)
      simp only [stream_Take.j1]
      rw [if_pos trivial]
      rfl
    have go : ∀ b : Bool, (b = false → at_ < (v1 : Int)) → ∃ R, Ends2 t0 R ∧ Ev (fun k => stream_Take.j1 k (ba t0) (ba name) (n : Int) (v1 : Int) (v2 : Int) (m : Int) (i : Int) b (ba l2) c2 (ba nm) (t : Int) (ba fl)) R := by
      intro b hb
      cases b with
      | true => exact ⟨_, .inl rfl, stop _ _⟩
      | false =>
        have hlt := hb rfl
        have hqv : q ≤ v1 := by omega
        have hx := txt_all l2 c2 ((v2 * 16 : Nat) : Int)
        have hl := (txtP_len l2 c2 (v2 * 16)).1
        have hshape : (txtP l2 c2 ((v2 * 16 : Nat) : Int)).1.length = 0 ∨ (txtP l2 c2 ((v2 * 16 : Nat) : Int)).1.length = v2 * 16 := by
          unfold txtP
          split
          · exact .inl rfl
          · rename_i hh
            refine .inr ?_
            simp only [Int.toNat_natCast, List.length_take]
            omega
        generalize txtP l2 c2 ((v2 * 16 : Nat) : Int) = X at hx hl hshape
        obtain ⟨x, l3, c3⟩ := X
        simp only at hx hl hshape
        obtain ⟨q', hq'⟩ : ∃ q', (fl ++ (List.replicate (16 * (v1 - q)) 0 ++ x)).length = 16 * q' ∧ q' ≤ v1 + v2 := by
          simp only [List.length_append, List.length_replicate]
          rcases hshape with h | h
          · exact ⟨v1, by omega, by omega⟩
          · exact ⟨v1 + v2, by omega, by omega⟩
        obtain ⟨R, hR, hE⟩ := ih (i + 1) ((v1 : Int) + (v2 : Int)) l3 c3 (fl ++ (List.replicate (16 * (v1 - q)) 0 ++ x)) q' (by omega) hq'.1 (by omega) (by omega) (.inl (by omega))
        refine ⟨R, hR, Ev.step (fun k => ?_) hE⟩
        simp only [stream_Take.j1]
        rw [if_neg (by decide), wgap fl v1 q hq (by omega) hqv, wm16 v2 b2', noughts_eq _ (by omega), Option.bind_some, hx, Option.bind_some]
        simp only
        rw [ba_size, ba_size, ba_size, List.length_replicate, if_pos (by omega), if_pos (by omega), ba_append, ba_append, wsum v1 v2 b1' b2', wadd1' i (by omega)]
    have a1' : le_Reader_Number.f (ba left) bad 1 = some ((v1 : Int), ba l1, c1) := a1
    have a2' : le_Reader_Number.f (ba l1) c1 1 = some ((v2 : Int), ba l2, c2) := a2
    by_cases hb2 : c2 = true
    · refine ⟨_, .inl rfl, Ev.step (fun k => ?_) (stop (v1 : Int) (v2 : Int))⟩
      simp only [stream_Take.l0]
      rw [if_pos (by omega), a1', Option.bind_some]
      simp only
      rw [a2', Option.bind_some]
      simp only
      rw [if_pos hb2, w64n v1 b1', w64n v2 b2']
    · by_cases hf : (v1 : Int) ≤ at_
      · refine ⟨_, .inl rfl, Ev.step (fun k => ?_) (stop (v1 : Int) (v2 : Int))⟩
        simp only [stream_Take.l0]
        rw [if_pos (by omega), a1', Option.bind_some]
        simp only
        rw [a2', Option.bind_some]
        simp only
        rw [if_neg hb2, w64n v1 b1', w64n v2 b2', if_pos hf]
      · obtain ⟨R, hR, hE⟩ := go ((v2 : Int) == 0) (fun _ => by omega)
        refine ⟨R, hR, Ev.step (fun k => ?_) hE⟩
        simp only [stream_Take.l0]
        rw [if_pos (by omega), a1', Option.bind_some]
        simp only
        rw [a2', Option.bind_some]
        simp only
        rw [if_neg hb2, w64n v1 b1', w64n v2 b2', if_neg hf]
end Go.Proofs.YtfoniidbkbmjeaaDoor.Pu
end
section
/- Runs that tell a text: what stream.Take makes of them. -/

namespace Go.Proofs.YtfoniidbkbmjeaaDoor.Pu
open Go Go.Lib Go.RowKit Go.Proofs.YtfoniidbkbmjeaaDoor.Pl Go.Proofs.YtfoniidbkbmjeaaDoor.Lf Go.Proofs.YtfoniidbkbmjeaaDoor.Fn Go.Proofs.YtfoniidbkbmjeaaDoorW.PrintWords
/-- Runs that tell the clusters from e on. -/
def Good (fl : List UInt8) : Nat → List Run → Prop
  | e, [] => fl.drop (16 * e) = List.replicate (fl.length - 16 * e) 0
  | e, x :: r => e ≤ x.1.1 ∧ (e = x.1.1 → e = 0) ∧ (∃ v, 0 < v ∧ x.1.2.size = 16 * v ∧ 16 * (x.1.1 + v) ≤ fl.length ∧ (fl.drop (16 * e)).take (16 * (x.1.1 - e)) = List.replicate (16 * (x.1.1 - e)) 0 ∧
      x.1.2 = ba ((fl.drop (16 * x.1.1)).take (16 * v)) ∧ Good fl (x.1.1 + v) r)
theorem drop_take_add (fl : List UInt8) (a b c : Nat) : (fl.drop a).take (b + c) = (fl.drop a).take b ++ (fl.drop (a + b)).take c := by
  rw [List.take_add, List.drop_drop]
theorem blank_of (fl : List UInt8) (i : Nat) (h : full (ba fl) i = false) : (fl.drop (16 * i)).take 16 = List.replicate 16 0 := by
  rw [full_eq] at h
  simpa using h
theorem restY_good (fl : List UInt8) (n : Nat) (hfl : fl.length = 16 * n) (hn : n ≤ 64) : ∀ (d i f e : Nat), d + i = n + 1 → e ≤ f → f ≤ i → i ≤ n + 1 → (e = f → e = 0) → (i = n + 1 → f = n + 1) →
    (i ≤ n → (fl.drop (16 * e)).take (16 * (f - e)) = List.replicate (16 * (f - e)) 0) → (i = n + 1 → fl.drop (16 * e) = List.replicate (fl.length - 16 * e) 0) → Good fl e (restY (ba fl) n d i f) := by
  intro d
  induction d with
  | zero =>
    intro i f e hd h1 h2 h3 h4 h5 h6 h7
    rw [restY]
    exact h7 (by omega)
  | succ d ih =>
    intro i f e hd h1 h2 h3 h4 h5 h6 h7
    have hz := h6 (by omega)
    have next : ∀ e' : Nat, e' ≤ i → (i < n → full (ba fl) i = false) → (i = n → e' ≤ n) → (fl.drop (16 * e')).take (16 * (i - e')) = List.replicate (16 * (i - e')) 0 → Good fl e' (restY (ba fl) n d (i + 1) (i + 1)) := by
      intro e' he hb hn' hzz
      refine ih (i + 1) (i + 1) e' (by omega) (by omega) (Nat.le_refl _) (by omega) (by omega) (fun h => h) ?_ ?_
      · intro hi
        rw [show 16 * (i + 1 - e') = 16 * (i - e') + 16 by omega, drop_take_add, hzz, show 16 * e' + 16 * (i - e') = 16 * i by omega, blank_of fl i (hb (by omega)), List.replicate_append_replicate]
      · intro hi
        have hin : i = n := by omega
        have : (fl.drop (16 * e')).length = 16 * (i - e') := by rw [List.length_drop]; omega
        rw [List.take_of_length_le (by omega)] at hzz
        rw [hzz, hfl]
        congr 1
        omega
    rw [restY]
    by_cases hc : i < n ∧ full (ba fl) i = true
    · rw [if_pos hc]
      exact ih (i + 1) f e (by omega) h1 (by omega) (by omega) h4 (by omega) (fun _ => hz) (by omega)
    · rw [if_neg hc]
      have hb : i < n → full (ba fl) i = false := fun hi => by
        cases hf : full (ba fl) i
        · rfl
        · exact absurd ⟨hi, hf⟩ hc
      by_cases hfi : f < i
      · rw [if_pos hfi, List.singleton_append]
        have hsz : ((ba fl).extract (16 * f) (16 * i)).size = 16 * (i - f) := by rw [ba_extract, ba_size, List.length_take, List.length_drop]; omega
        have hv := mkRun_val f ((ba fl).extract (16 * f) (16 * i)) ⟨by omega, by omega⟩
        unfold Good
        rw [hv]
        refine ⟨h1, h4, i - f, by omega, hsz, by simp only; omega, hz, ?_, ?_⟩
        · simp only
          rw [ba_extract, show 16 * i - 16 * f = 16 * (i - f) by omega]
        · rw [show f + (i - f) = i by omega]
          exact next i (Nat.le_refl _) hb (by omega) (by simp)
      · rw [if_neg hfi, List.nil_append]
        obtain rfl : f = i := by omega
        exact next e h1 hb (by omega) hz
theorem runsT_good (fl : List UInt8) (h16 : fl.length % 16 = 0) (hl : fl.length ≤ 1024) : Good fl 0 (runsT fl) :=
  restY_good fl (fl.length / 16) (by omega) (by omega) (fl.length / 16 + 1) 0 0 0 (by omega) (Nat.le_refl _) (Nat.le_refl _) (by omega) (fun h => h) (by omega) (fun _ => by simp) (fun h => by omega)
theorem body_cons (x : Run) (r : List Run) (v : Nat) (h : x.1.2.size = 16 * v) : bodyR (x :: r) = putN x.1.1 1 ++ (putN v 1 ++ (x.1.2.data.toList ++ bodyR r)) := by
  unfold bodyR
  rw [List.flatMap_cons, h, show 16 * v / 16 = v by omega]
  simp only [List.append_assoc]
theorem good_nil (fl : List UInt8) (n e : Nat) (hfl : fl.length = 16 * n) (h : Good fl e []) : fl.take (16 * e) ++ List.replicate (16 * (n - e)) 0 = fl := by
  have h' : fl.drop (16 * e) = List.replicate (fl.length - 16 * e) 0 := h
  rw [show 16 * (n - e) = fl.length - 16 * e by omega, ← h', List.take_append_drop]
theorem good_step (fl : List UInt8) (e f v : Nat) (he : e ≤ f) (hz : (fl.drop (16 * e)).take (16 * (f - e)) = List.replicate (16 * (f - e)) 0) :
    fl.take (16 * e) ++ (List.replicate (16 * (f - e)) 0 ++ (fl.drop (16 * f)).take (16 * v)) = fl.take (16 * (f + v)) := by
  rw [← hz, show 16 * (f + v) = 16 * e + (16 * (f - e) + 16 * v) by omega, List.take_add, List.take_add, List.drop_drop, show 16 * e + 16 * (f - e) = 16 * f by omega]
theorem take_good (t0 nm fl : List UInt8) (t n m : Nat) (hfl : fl.length = 16 * n) (hn : n ≤ 64) (hnm : nm.length ≤ 1000) (ht : t < 18446744073709551616) (hm : m < 256) (hP : putP nm t fl = (ba t0, 0)) :
    ∀ (r : List Run) (e i : Nat) (at_ : Int), Good fl e r → i + r.length = m → e ≤ n → ((at_ = (e : Int) ∧ 0 < e) ∨ (at_ = -1 ∧ e = 0)) →
      Ev (fun k => stream_Take.l0 k (ba t0) (ba [114, 99, 115, 116]) (n : Int) at_ (m : Int) (i : Int) (ba (bodyR r)) false (ba nm) (t : Int) (ba (fl.take (16 * e)))) (ba nm, (t : Int), ba fl, 0) := by
  intro r
  induction r with
  | nil =>
    intro e i at_ hg hi he ha
    have hlen : (fl.take (16 * e)).length = 16 * e := by rw [List.length_take]; omega
    have hz : mx (wrap64 ((n : Int) - wrap64 (((ba (fl.take (16 * e))).size : Int) / 16))) 0 = ((n - e : Nat) : Int) := by
      rw [wgap _ n e hlen (by omega) he]
      unfold mx
      rw [if_neg (by omega)]
    have hE := take_end t0 nm fl t (((ba fl).size : Int) != wrap64 ((n : Int) * 16)) hnm ht
    have hb : (((ba fl).size : Int) != wrap64 ((n : Int) * 16)) = false := by
      rw [ba_size, wm16 n (by omega), bne_eq_false_iff_eq]; omega
    rw [if_pos ⟨hb, hP⟩] at hE
    refine Ev.step (fun k => ?_) hE
    simp only [List.length_nil] at hi
    simp only [stream_Take.l0]
    rw [if_neg (by omega), hz, noughts_eq _ (by omega), Option.bind_some, ba_size, ba_size, List.length_replicate, if_pos (by omega), over_eq, Option.bind_some, ba_append, ba_toList, good_nil fl n e hfl hg]
    simp only
    rw [if_pos (by decide), if_pos trivial]
  | cons x r ih =>
    intro e i at_ hg hi he ha
    obtain ⟨h1, h2, v, hv0, hsz, hle, hz, hx, hr⟩ := hg
    have hf := x.2.1
    have hvn : v ≤ 64 := by omega
    simp only [List.length_cons] at hi
    have a1 : le_Reader_Number.f (ba (bodyR (x :: r))) false 1 = some ((x.1.1 : Int), ba (putN v 1 ++ (x.1.2.data.toList ++ bodyR r)), false) := by
      have h := num_all (bodyR (x :: r)) false 1 (by omega)
      rw [body_cons x r v hsz, numP_put _ _ _ (by omega)] at h
      rw [body_cons x r v hsz]
      exact h
    have a2 : le_Reader_Number.f (ba (putN v 1 ++ (x.1.2.data.toList ++ bodyR r))) false 1 = some ((v : Int), ba (x.1.2.data.toList ++ bodyR r), false) := by
      have h := num_all (putN v 1 ++ (x.1.2.data.toList ++ bodyR r)) false 1 (by omega)
      rw [numP_put _ _ _ (by omega)] at h
      exact h
    have a3 : le_Reader_Text.f (ba (x.1.2.data.toList ++ bodyR r)) false ((v * 16 : Nat) : Int) = some (x.1.2, ba (bodyR r), false) := by
      have h := txt_all (x.1.2.data.toList ++ bodyR r) false ((x.1.2.data.toList.length : Nat) : Int)
      rw [txtP_app] at h
      rw [show ((v * 16 : Nat) : Int) = ((x.1.2.data.toList.length : Nat) : Int) by rw [show x.1.2.data.toList.length = x.1.2.size from Array.length_toList, hsz]; omega, h, ba_data]
    have hlen : (fl.take (16 * e)).length = 16 * e := by rw [List.length_take]; omega
    have hxl : x.1.2.size ≤ 1024 := x.2.2
    have hE := ih (x.1.1 + v) (i + 1) ((x.1.1 : Int) + (v : Int)) hr (by omega) (by omega) (.inl ⟨by omega, by omega⟩)
    rw [← good_step fl e x.1.1 v h1 hz, ← ba_append, ← ba_append, ← hx] at hE
    refine Ev.step (f := fun k => stream_Take.j1 k (ba t0) (ba [114, 99, 115, 116]) (n : Int) (x.1.1 : Int) (v : Int) (m : Int) (i : Int) ((v : Int) == 0) (ba (x.1.2.data.toList ++ bodyR r)) false (ba nm) (t : Int) (ba (fl.take (16 * e)))) (fun k => ?_) (Ev.step (fun k => ?_) hE)
    · simp only [stream_Take.l0]
      rw [if_pos (by omega), a1, Option.bind_some]
      simp only
      rw [a2, Option.bind_some]
      simp only
      rw [if_neg (by decide), w64n x.1.1 (by omega), w64n v (by omega), if_neg (by omega)]
    · simp only [stream_Take.j1]
      rw [if_neg (by simp; omega), wgap _ x.1.1 e hlen (by omega) h1, wm16 v (by omega), noughts_eq _ (by omega), Option.bind_some, a3, Option.bind_some]
      simp only
      rw [ba_size, ba_size, List.length_replicate, if_pos (by omega), if_pos (by omega), wsum _ _ (by omega) (by omega), wadd1' i (by omega)]
/-- What Take is to tell: a text that Put told is that snapshot; of all others it says what is wrong. -/
def TakeSpec (t0 : List UInt8) (R : SnapR) : Prop :=
  ((unsealed t0).2 ≠ 0 → R = refusedR (unsealed t0).2) ∧ (∀ nm t fl, IsPut t0 nm t fl → R = (ba nm, (t : Int), ba fl, 0)) ∧ ((unsealed t0).2 = 0 → (∀ nm t fl, ¬ IsPut t0 nm t fl) → R = refusedR 2)
theorem isPut_text {t0 nm fl : List UInt8} {t : Nat} (h : IsPut t0 nm t fl) : rightP nm fl = true ∧ t0 = sealed (textT nm t fl) := by
  obtain ⟨_, _, h⟩ := h
  unfold putP at h
  by_cases hr : rightP nm fl = true
  · rw [if_pos hr] at h
    exact ⟨hr, (ba_inj (Prod.mk.inj h).1).symm⟩
  · rw [if_neg hr] at h
    exact absurd (Prod.mk.inj h).2 (by decide)
theorem text_split (nm fl : List UInt8) (t : Nat) : textT nm t fl = [114, 99, 115, 116] ++ (putN (fl.length / 16) 1 ++ (putN t 8 ++ (putN nm.length 1 ++ (nm ++ (putN (runsT fl).length 1 ++ bodyR (runsT fl)))))) := by
  unfold textT headT
  simp only [List.append_assoc]
theorem runsT_len (fl : List UInt8) (hl : fl.length ≤ 1024) : (runsT fl).length ≤ 65 := by
  have h3 : (runsT fl).length ≤ fl.length / 16 + 1 := restY_len _ _ _ _ _
  omega
theorem take_right (t0 nm fl : List UInt8) (t : Nat) (h : IsPut t0 nm t fl) : Ev (fun k => stream_Take.f k (ba t0)) (ba nm, (t : Int), ba fl, 0) := by
  obtain ⟨hr, ht0⟩ := isPut_text h
  obtain ⟨ht, hnm, hP⟩ := h
  obtain ⟨h16, hl, hpos⟩ := rightP_flat hr
  have hn96 := rightP_name hr
  have hrl := runsT_len fl hl
  have hs := seal_take_eq t0 (by rw [ht0, sealed_length]; have := seal_text nm fl t (by omega) (by omega); omega)
  rw [ht0, unsealed_sealed, ← ht0] at hs
  have hg := take_good t0 nm fl t (fl.length / 16) (runsT fl).length (by omega) (by omega) hnm ht (by omega) hP (runsT fl) 0 0 (-1) (runsT_good fl h16 hl) (by omega) (by omega) (.inr ⟨rfl, rfl⟩)
  have b0 : le_Reader_Text.f (ba (textT nm t fl)) false 4 = some (ba [114, 99, 115, 116], ba (putN (fl.length / 16) 1 ++ (putN t 8 ++ (putN nm.length 1 ++ (nm ++ (putN (runsT fl).length 1 ++ bodyR (runsT fl)))))), false) := by
    have h := txt_all (textT nm t fl) false (([114, 99, 115, 116] : List UInt8).length : Nat)
    rw [text_split, txtP_app] at h
    rw [text_split]
    exact h
  have num : ∀ (a b : Nat) (r : List UInt8), b ≤ 8 → a < 256 ^ b → le_Reader_Number.f (ba (putN a b ++ r)) false (b : Int) = some ((a : Int), ba r, false) := by
    intro a b r hb ha
    have h := num_all (putN a b ++ r) false b hb
    rw [numP_put _ _ _ ha] at h
    exact h
  have b1 := num (fl.length / 16) 1 (putN t 8 ++ (putN nm.length 1 ++ (nm ++ (putN (runsT fl).length 1 ++ bodyR (runsT fl))))) (by omega) (by omega)
  have b2 := num t 8 (putN nm.length 1 ++ (nm ++ (putN (runsT fl).length 1 ++ bodyR (runsT fl)))) (by omega) (by rw [show (256 : Nat) ^ 8 = 18446744073709551616 by simp]; exact ht)
  have b3 := num nm.length 1 (nm ++ (putN (runsT fl).length 1 ++ bodyR (runsT fl))) (by omega) (by omega)
  have b5 := num (runsT fl).length 1 (bodyR (runsT fl)) (by omega) (by omega)
  have b4 : le_Reader_Text.f (ba (nm ++ (putN (runsT fl).length 1 ++ bodyR (runsT fl)))) false ((nm.length : Nat) : Int) = some (ba nm, ba (putN (runsT fl).length 1 ++ bodyR (runsT fl)), false) := by
    have h := txt_all (nm ++ (putN (runsT fl).length 1 ++ bodyR (runsT fl))) false ((nm.length : Nat) : Int)
    rw [txtP_app] at h
    exact h
  refine Ev.congr (fun k => ?_) hg
  unfold stream_Take.f
  rw [hs, Option.bind_some]
  simp only
  rw [if_pos trivial, b0, Option.bind_some]
  simp only
  rw [show ((1 : Nat) : Int) = 1 from rfl] at b1 b3 b5
  rw [show ((8 : Nat) : Int) = 8 from rfl] at b2
  rw [b1, Option.bind_some]
  simp only
  rw [b2, Option.bind_some]
  simp only
  rw [b3, Option.bind_some]
  simp only
  rw [w64n nm.length (by omega), b4, Option.bind_some]
  simp only
  rw [b5, Option.bind_some]
  simp only
  rw [w64n (fl.length / 16) (by omega), w64n (runsT fl).length (by omega)]
  rfl
theorem take_any (t0 : List UInt8) (hl : t0.length ≤ 1000000) (h0 : (unsealed t0).2 = 0) : ∃ R, Ends2 t0 R ∧ Ev (fun k => stream_Take.f k (ba t0)) R := by
  have hs := seal_take_eq t0 (by omega)
  rw [h0] at hs
  generalize (unsealed t0).1 = u at hs
  have b0 := txt_all u false 4
  generalize txtP u false 4 = X0 at b0
  obtain ⟨name, l0, c0⟩ := X0
  have b1 := num_all l0 c0 1 (by omega)
  have d1 := numP_lt l0 c0 1
  generalize numP l0 c0 1 = X1 at b1 d1
  obtain ⟨n, l1, c1⟩ := X1
  have b2 := num_all l1 c1 8 (by omega)
  have d2 := numP_lt l1 c1 8
  generalize numP l1 c1 8 = X2 at b2 d2
  obtain ⟨t, l2, c2⟩ := X2
  have b3 := num_all l2 c2 1 (by omega)
  have d3 := numP_lt l2 c2 1
  generalize numP l2 c2 1 = X3 at b3 d3
  obtain ⟨nn, l3, c3⟩ := X3
  have b4 := txt_all l3 c3 ((nn : Nat) : Int)
  have d4 := (txtP_len l3 c3 nn).1
  generalize txtP l3 c3 ((nn : Nat) : Int) = X4 at b4 d4
  obtain ⟨nm, l4, c4⟩ := X4
  have b5 := num_all l4 c4 1 (by omega)
  have d5 := numP_lt l4 c4 1
  generalize numP l4 c4 1 = X5 at b5 d5
  obtain ⟨m, l5, c5⟩ := X5
  simp only at b0 b1 b2 b3 b4 b5 d1 d2 d3 d4 d5
  rw [show (256 : Nat) ^ 8 = 18446744073709551616 by simp] at d2
  obtain ⟨R, hR, hE⟩ := take_loop t0 nm name t n (by omega) (by omega) d2 m (by omega) m 0 (-1) l5 c5 [] 0 (by omega) rfl (by omega) (by omega) (.inr rfl)
  refine ⟨R, hR, Ev.congr (fun k => ?_) hE⟩
  rw [show ((1 : Nat) : Int) = 1 from rfl] at b1 b3 b5
  rw [show ((8 : Nat) : Int) = 8 from rfl] at b2
  unfold stream_Take.f
  rw [hs, Option.bind_some]
  simp only
  rw [if_pos trivial, b0, Option.bind_some]
  simp only
  rw [b1, Option.bind_some]
  simp only
  rw [b2, Option.bind_some]
  simp only
  rw [b3, Option.bind_some]
  simp only
  rw [w64n nn (by omega), b4, Option.bind_some]
  simp only
  rw [b5, Option.bind_some]
  simp only
  rw [w64n n (by omega), w64n m (by omega)]
  rfl
theorem stream_take (t0 : List UInt8) (hl : t0.length ≤ 1000000) : ∃ R, TakeSpec t0 R ∧ Ev (fun k => stream_Take.f k (ba t0)) R := by
  by_cases h0 : (unsealed t0).2 = 0
  · by_cases hp : ∃ nm t fl, IsPut t0 nm t fl
    · obtain ⟨nm, t, fl, h⟩ := hp
      have hE := take_right t0 nm fl t h
      refine ⟨_, ⟨fun hh => absurd h0 hh, fun nm' t' fl' h' => ?_, fun _ hh => absurd h (hh _ _ _)⟩, hE⟩
      obtain ⟨K, hK⟩ := hE
      obtain ⟨K', hK'⟩ := take_right t0 nm' fl' t' h'
      exact Option.some.inj ((hK (max K K') (Nat.le_max_left _ _)).symm.trans (hK' (max K K') (Nat.le_max_right _ _)))
    · obtain ⟨R, hR, hE⟩ := take_any t0 hl h0
      refine ⟨R, ⟨fun hh => absurd h0 hh, fun nm t fl h => absurd ⟨nm, t, fl, h⟩ hp, fun _ _ => ?_⟩, hE⟩
      rcases hR with rfl | ⟨nm, t, fl, _, h⟩
      · rfl
      · exact absurd ⟨nm, t, fl, h⟩ hp
  · refine ⟨refusedR (unsealed t0).2, ⟨fun _ => rfl, fun nm t fl h => ?_, fun h => absurd h h0⟩, Ev.congr (f := fun _ => some _) (fun k => ?_) (Ev.now _)⟩
    · obtain ⟨_, e⟩ := isPut_text h
      rw [e, unsealed_sealed] at h0
      exact absurd rfl h0
    · unfold stream_Take.f
      rw [seal_take_eq t0 (by omega), Option.bind_some]
      simp only
      rw [if_neg h0]
      rfl
theorem spec_unique {t0 : List UInt8} {R R' : SnapR} (h : TakeSpec t0 R) (h' : TakeSpec t0 R') : R = R' := by
  by_cases h0 : (unsealed t0).2 = 0
  · by_cases hp : ∃ nm t fl, IsPut t0 nm t fl
    · obtain ⟨nm, t, fl, hq⟩ := hp
      rw [h.2.1 _ _ _ hq, h'.2.1 _ _ _ hq]
    · rw [h.2.2 h0 (fun _ _ _ hq => hp ⟨_, _, _, hq⟩), h'.2.2 h0 (fun _ _ _ hq => hp ⟨_, _, _, hq⟩)]
  · rw [h.1 h0, h'.1 h0]
theorem put_inj {t0 nm nm' fl fl' : List UInt8} {t t' : Nat} (h : IsPut t0 nm t fl) (h' : IsPut t0 nm' t' fl') : nm = nm' ∧ t = t' ∧ fl = fl' := by
  obtain ⟨K, hK⟩ := take_right t0 nm fl t h
  obtain ⟨K', hK'⟩ := take_right t0 nm' fl' t' h'
  have e := Option.some.inj ((hK (max K K') (Nat.le_max_left _ _)).symm.trans (hK' (max K K') (Nat.le_max_right _ _)))
  simp only [Prod.mk.injEq] at e
  exact ⟨ba_inj e.1, by omega, ba_inj e.2.2.1⟩
end Go.Proofs.YtfoniidbkbmjeaaDoor.Pu
end
section
/- Chapter 17's statements on Put, in plain words. -/



namespace Go.Proofs.YtfoniidbkbmjeaaDoor.Pu
open Go Go.Lib Go.RowKit Go.Proofs.YtfoniidbkbmjeaaDoor.Pl Go.Proofs.YtfoniidbkbmjeaaDoor.Lf Go.Proofs.YtfoniidbkbmjeaaDoor.Fn Go.Proofs.YtfoniidbkbmjeaaDoorW.PrintWords
def flatS : List UInt8 := List.replicate 16 0 ++ List.replicate 16 120
theorem shown_text : textT [97] 2 flatS = [114, 99, 115, 116, 2, 2, 0, 0, 0, 0, 0, 0, 0, 1, 97, 1, 1, 1, 120, 120, 120, 120, 120, 120, 120, 120, 120, 120, 120, 120, 120, 120, 120, 120] := by decide +kernel
theorem shown17 : rootcellarlaw17_shown.f = some true := by
  have e1 : (⟨#[97]⟩ : ByteArray) = ba [97] := rfl
  have e2 : strOfNums (List.replicate 16 0) ++ (⟨#[120, 120, 120, 120, 120, 120, 120, 120, 120, 120, 120, 120, 120, 120, 120, 120]⟩ : ByteArray) = ba flatS := by decide +kernel
  have e3 : (strOfNums (List.replicate 16 0)).size = 16 := by decide +kernel
  have hp := stream_put [97] flatS 2 (by decide) (by decide)
  unfold putP at hp
  rw [if_pos (by decide +kernel)] at hp
  have ht := seal_take_eq (sealed (textT [97] 2 flatS)) (by rw [sealed_length, shown_text]; decide)
  rw [unsealed_sealed] at ht
  unfold rootcellarlaw17_shown.f
  rw [if_pos (by decide), Option.bind_some, e3, if_pos (by decide), e1, e2, show (2 : Int) = ((2 : Nat) : Int) from rfl, hp, Option.bind_some, ht, Option.bind_some, if_pos rfl, if_pos rfl, if_pos (by decide), ba_toList, shown_text]
  decide +kernel
theorem streamPuts (nm fl : List UInt8) (t : Nat) (ht : t < 18446744073709551616) : Ev (fun k => rootcellarlaw17_StreamPuts.f k (ba nm) (t : Int) (ba fl)) true := by
  have body : ∀ q : Bool, (q = false → nm.length ≤ 200 ∧ fl.length ≤ 1100) → Ev (fun k => rootcellarlaw17_StreamPuts.j0 k true q (ba nm) (t : Int) (ba fl)) true := by
    intro q hq
    cases q with
    | true =>
      refine Ev.step (f := fun _ => some true) (fun k => ?_) (Ev.now _)
      simp only [rootcellarlaw17_StreamPuts.j0]
      exact if_pos trivial
    | false =>
      obtain ⟨h1, h2⟩ := hq rfl
      refine Ev.step (fun k => by simp only [rootcellarlaw17_StreamPuts.j0]; rw [if_neg (by decide), stream_put nm fl t h1 ht, Option.bind_some, stream_right nm fl (t : Int) (by omega), show rootcellarlaw17_as.f (ba nm) (t : Int) (ba fl) = some (ba nm, (t : Int), ba fl) from rfl, Option.bind_some]) ?_
      refine Ev.bind (ref_put17 nm fl t (by omega) ht) ?_
      refine Ev.congr (fun k => by rw [if_pos rfl, if_pos rfl, Option.bind_some, Option.bind_some]) ?_
      refine Ev.bind (ref_right17 nm fl (t : Int) (by omega)) ?_
      refine Ev.congr (f := fun _ => some true) (fun k => by rw [beq_self_eq_true]) (Ev.now _)
  unfold rootcellarlaw17_StreamPuts.f
  rw [shown17]
  refine Ev.congr (fun k => by rw [Option.bind_some, if_pos rfl, ba_size, ba_size]) ?_
  by_cases h1 : nm.length > 200
  · refine Ev.congr (fun k => by rw [if_pos (by omega)]) (body true (by simp))
  · refine Ev.congr (fun k => by rw [if_neg (by omega)]) (body _ (fun h => ⟨by omega, by have := of_decide_eq_false h; omega⟩))
theorem StreamPuts (a : ByteArray) (b : Int) (c : ByteArray) (hb : 0 ≤ b ∧ b < 18446744073709551616) : ∃ k, rootcellarlaw17_StreamPuts.f k a b c = some true := by
  obtain ⟨nm, rfl⟩ := ex_ba a
  obtain ⟨fl, rfl⟩ := ex_ba c
  obtain ⟨t, rfl⟩ : ∃ t : Nat, b = (t : Int) := ⟨b.toNat, by omega⟩
  exact (streamPuts nm fl t (by omega)).rounds
end Go.Proofs.YtfoniidbkbmjeaaDoor.Pu
end
section
/- StreamApart in plain words. -/



namespace Go.Proofs.YtfoniidbkbmjeaaDoor.Pu
open Go Go.Lib Go.RowKit Go.Proofs.YtfoniidbkbmjeaaDoor.Pl Go.Proofs.YtfoniidbkbmjeaaDoor.Lf Go.Proofs.YtfoniidbkbmjeaaDoor.Fn Go.Proofs.YtfoniidbkbmjeaaDoorW.PrintWords
theorem right_all (l : List UInt8) (h : l.length ≤ 9223372036854775807) : label_Right.f (ba l) = some (rightB l) := by
  unfold label_Right.f
  rw [ba_size, if_pos h, ba_list]
theorem put_wide (nm fl : List UInt8) (t : Nat) (hnm : nm.length ≤ 9223372036854775807) (ht : t < 18446744073709551616) : stream_Put.f (ba nm) (t : Int) (ba fl) = some (putP nm t fl) := by
  by_cases h1 : nm.length ≤ 1000
  · exact stream_put' nm fl t h1 ht
  · have hr : rightB nm = false := by
      cases hh : rightB nm
      · rfl
      · have := (rightB_len hh).1; omega
    have hs : stream_Right.f (ba nm) (t : Int) (ba fl) = some false := by
      unfold stream_Right.f
      rw [right_all nm hnm, Option.bind_some, hr, if_neg (by decide)]
    have hp : rightP nm fl = false := by unfold rightP; rw [hr]; rfl
    unfold stream_Put.f putF putP
    rw [hs, if_neg (by simp), if_pos ⟨by omega, by omega, rfl⟩, if_neg (by rw [hp]; decide)]
    rfl
theorem streamApart (nm fl nm' fl' : List UInt8) (t t' : Nat) (ht : t < 18446744073709551616) (ht' : t' < 18446744073709551616) (hs : nm.length ≤ 9223372036854775807) (hs' : nm'.length ≤ 9223372036854775807) :
    Ev (fun k => rootcellarlaw17_StreamApart.f k (ba nm) (t : Int) (ba fl) (ba nm') (t' : Int) (ba fl')) true := by
  have body : ∀ q : Bool, Ev (fun k => rootcellarlaw17_StreamApart.j0 k true q (ba nm) (t : Int) (ba fl) (ba nm') (t' : Int) (ba fl')) true := by
    intro q
    refine Ev.step (f := fun _ => some true) (fun k => ?_) (Ev.now _)
    simp only [rootcellarlaw17_StreamApart.j0]
    cases q with
    | true => rw [if_pos rfl]
    | false =>
      rw [if_neg (by decide), put_wide nm fl t hs ht, Option.bind_some, put_wide nm' fl' t' hs' ht', Option.bind_some]
      by_cases hr : rightP nm fl = true
      · by_cases hr' : rightP nm' fl' = true
        · have e : putP nm t fl = (ba (sealed (textT nm t fl)), 0) := by unfold putP; rw [if_pos hr]
          have e' : putP nm' t' fl' = (ba (sealed (textT nm' t' fl')), 0) := by unfold putP; rw [if_pos hr']
          rw [e, e', if_pos rfl, if_pos rfl]
          simp only [ba_toList]
          congr 1
          rw [beq_iff_eq, Bool.eq_iff_iff, beq_iff_eq, Bool.and_eq_true, Bool.and_eq_true, beq_iff_eq, beq_iff_eq, beq_iff_eq]
          constructor
          · intro h
            have h1' : IsPut (sealed (textT nm t fl)) nm t fl := ⟨ht, by have := rightP_name hr; omega, e⟩
            have h2' : IsPut (sealed (textT nm t fl)) nm' t' fl' := ⟨ht', by have := rightP_name hr'; omega, by rw [h]; exact e'⟩
            obtain ⟨rfl, rfl, rfl⟩ := put_inj h1' h2'
            exact ⟨rfl, rfl, rfl⟩
          · rintro ⟨rfl, h, rfl⟩
            obtain rfl : t = t' := by omega
            rfl
        · have e' : putP nm' t' fl' = (ba [], 1) := by unfold putP; rw [if_neg hr']
          have e : putP nm t fl = (ba (sealed (textT nm t fl)), 0) := by unfold putP; rw [if_pos hr]
          rw [e, e', if_pos rfl, if_neg (by decide)]
      · have e : putP nm t fl = (ba [], 1) := by unfold putP; rw [if_neg hr]
        rw [e, if_neg (by decide)]
  unfold rootcellarlaw17_StreamApart.f
  rw [shown17]
  refine Ev.congr (fun k => by rw [Option.bind_some, if_pos rfl, ba_size, ba_size, ba_size, ba_size]) ?_
  by_cases h1 : wrap64 ((nm.length : Int) + (nm'.length : Int)) > 300
  · exact Ev.congr (fun k => by rw [if_pos h1]) (body true)
  · refine Ev.congr (fun k => by rw [if_neg h1]) ?_
    clear h1
    by_cases h2 : fl.length > 1100
    · exact Ev.congr (fun k => by rw [if_pos (by omega)]) (body true)
    · exact Ev.congr (fun k => by rw [if_neg (by omega)]) (body _)
theorem StreamApart (a : ByteArray) (b : Int) (c a' : ByteArray) (b' : Int) (c' : ByteArray) (hb : 0 ≤ b ∧ b < 18446744073709551616) (ha : a.size ≤ maxLen) (_hc : c.size ≤ maxLen) (hb' : 0 ≤ b' ∧ b' < 18446744073709551616) (ha' : a'.size ≤ maxLen) (_hc' : c'.size ≤ maxLen) : ∃ k, rootcellarlaw17_StreamApart.f k a b c a' b' c' = some true := by
  obtain ⟨nm, rfl⟩ := ex_ba a
  obtain ⟨fl, rfl⟩ := ex_ba c
  obtain ⟨nm', rfl⟩ := ex_ba a'
  obtain ⟨fl', rfl⟩ := ex_ba c'
  obtain ⟨t, rfl⟩ : ∃ t : Nat, b = (t : Int) := ⟨b.toNat, by omega⟩
  obtain ⟨t', rfl⟩ : ∃ t : Nat, b' = (t : Int) := ⟨b'.toNat, by omega⟩
  unfold maxLen at ha ha'
  rw [ba_size] at ha ha'
  exact (streamApart nm fl nm' fl' t t' (by omega) (by omega) ha ha').rounds
end Go.Proofs.YtfoniidbkbmjeaaDoor.Pu
end
section
/- The reference to stream.Take in plain words: the same law. -/


namespace Go.Proofs.YtfoniidbkbmjeaaDoor.Pu
open Go Go.Lib Go.RowKit Go.Proofs.YtfoniidbkbmjeaaDoor.Pl Go.Proofs.YtfoniidbkbmjeaaDoor.Lf Go.Proofs.YtfoniidbkbmjeaaDoor.Fn Go.Proofs.YtfoniidbkbmjeaaDoorW.PrintWords
def toI (l : List UInt8) : List Int := l.map fun c => (c.toNat : Int)
theorem toI_str (l : List UInt8) : strOfNums (toI l) = ba l := by
  unfold strOfNums toI ba
  rw [List.map_map]
  congr 2
  conv => rhs; rw [← List.map_id l]
  apply List.map_congr_left
  intro c _
  simp
theorem toI_len (l : List UInt8) : (toI l).length = l.length := by simp [toI]
theorem toI_app (a b : List UInt8) : toI (a ++ b) = toI a ++ toI b := by simp [toI]
theorem toI_zero (n : Nat) : toI (List.replicate n 0) = List.replicate n 0 := by simp [toI]
/-- Bytes written over a row from p on, as far as it goes. -/
def over : List Int → Nat → List UInt8 → List Int
  | b, _, [] => b
  | b, p, c :: r => if p < b.length then over (b.set p (c.toNat : Int)) (p + 1) r else b
theorem over_len : ∀ (l : List UInt8) (b : List Int) (p : Nat), (over b p l).length = b.length
  | [], _, _ => rfl
  | c :: r, b, p => by
    rw [over]
    split
    · rw [over_len r, List.length_set]
    · rfl
theorem over_val : ∀ (l : List UInt8) (b : List Int) (p : Nat), p + l.length ≤ b.length → over b p l = b.take p ++ (toI l ++ b.drop (p + l.length))
  | [], b, p, _ => by simp [over, toI]
  | c :: r, b, p, h => by
    simp only [List.length_cons] at h
    rw [over, if_pos (by omega), over_val r _ (p + 1) (by rw [List.length_set]; omega), List.length_cons]
    have e1 : (b.set p (c.toNat : Int)).take (p + 1) = b.take p ++ [(c.toNat : Int)] := by
      rw [List.take_succ_eq_append_getElem (by rw [List.length_set]; omega), List.take_set_of_le (Nat.le_refl _), List.getElem_set_self]
    have e2 : (b.set p (c.toNat : Int)).drop (p + 1 + r.length) = b.drop (p + (r.length + 1)) := by
      rw [List.drop_set_of_lt (by omega), show p + 1 + r.length = p + (r.length + 1) by omega]
    rw [e1, e2]
    simp [toI]
theorem ref_over (t0 c l5 nm : List UInt8) (bad : Bool) (t m i : Int) (fl0 : ByteArray) (at_ : Nat) (R : SnapR) (hat : at_ < 256) (hc : c.length ≤ 5000) : ∀ (d j : Nat) (b : List Int), j + d = c.length → b.length ≤ 5000 →
    Ev (fun k => rootcellarref17_Take.l0 k (ba t0) m (over b (16 * at_ + j) (c.drop j)) (wrap64 (i + 1)) (ba l5) bad (ba nm) t fl0) R →
    Ev (fun k => rootcellarref17_Take.l1 k (ba t0) m b i (at_ : Int) (ba c) (j : Int) (ba l5) bad (ba nm) t fl0) R := by
  intro d
  induction d with
  | zero =>
    intro j b hj hb h
    rw [List.drop_eq_nil_of_le (by omega), over] at h
    refine Ev.step (fun k => ?_) h
    simp only [rootcellarref17_Take.l1]
    rw [ba_size, if_neg (by omega)]
  | succ d ih =>
    intro j b hj hb h
    have hlt : j < c.length := by omega
    rw [List.drop_eq_getElem_cons hlt, over] at h
    have e1 : wrap64 (wrap64 (16 * (at_ : Int)) + (j : Int)) = ((16 * at_ + j : Nat) : Int) := by
      rw [w64 (16 * (at_ : Int)) (by omega) (by omega), w64 _ (by omega) (by omega)]; omega
    by_cases hp : 16 * at_ + j < b.length
    · rw [if_pos hp] at h
      have h' := ih (j + 1) (b.set (16 * at_ + j) ((c[j]'hlt).toNat : Int)) (by omega) (by rw [List.length_set]; exact hb) h
      refine Ev.step (fun k => ?_) h'
      simp only [rootcellarref17_Take.l1]
      rw [ba_size, if_pos (by omega), e1, if_pos (by omega), if_pos (by omega), if_pos (by omega), bt_ba c j hlt, Int.toNat_natCast, wadd1' j (by omega)]
    · rw [if_neg hp] at h
      refine Ev.step (fun k => ?_) h
      simp only [rootcellarref17_Take.l1]
      rw [ba_size, if_pos (by omega), e1, if_neg (by omega)]
theorem ref_fin (t0 nm fl : List UInt8) (t : Nat) (bad : Bool) (b : List Int) (hb : strOfNums b = ba fl) (l5 : ByteArray) (m i : Int) (fl0 : ByteArray) (hnm : nm.length ≤ 1000) (ht : t < 18446744073709551616) :
    Ev (fun k => rootcellarref17_Take.j1 k (ba t0) m b i false l5 bad (ba nm) (t : Int) fl0) (if bad = false ∧ putP nm t fl = (ba t0, 0) then (ba nm, (t : Int), ba fl, 0) else refusedR 2) := by
  refine Ev.step (fun k => by simp only [rootcellarref17_Take.j1]; rw [if_neg (by decide), hb]) ?_
  refine Ev.bind (ref_put17 nm fl t hnm ht) ?_
  refine Ev.congr (f := fun _ => some _) (fun k => ?_) (Ev.now _)
  cases bad with
  | true => rw [if_pos rfl, if_neg (by simp)]; rfl
  | false =>
    rw [if_neg (by decide)]
    unfold putP
    by_cases hr : rightP nm fl = true
    · rw [if_pos hr]
      simp only [if_true, ba_toList]
      by_cases he : sealed (textT nm t fl) = t0
      · rw [if_pos he, he, if_pos ⟨trivial, rfl⟩]
      · rw [if_neg he, if_neg (by rintro ⟨_, h⟩; exact he (ba_inj (Prod.mk.inj h).1))]
        rfl
    · rw [if_neg hr]
      simp only
      rw [if_neg (by decide), if_neg (by rintro ⟨_, h⟩; exact absurd (Prod.mk.inj h).2 (by decide))]
      rfl
theorem ref_fin_any (t0 nm : List UInt8) (t : Nat) (bad : Bool) (b : List Int) (l5 : ByteArray) (m i : Int) (fl0 : ByteArray) (hnm : nm.length ≤ 1000) (ht : t < 18446744073709551616) :
    ∃ R, Ends2 t0 R ∧ Ev (fun k => rootcellarref17_Take.j1 k (ba t0) m b i false l5 bad (ba nm) (t : Int) fl0) R := by
  obtain ⟨fl, hb⟩ := ex_ba (strOfNums b)
  refine ⟨_, ?_, ref_fin t0 nm fl t bad b hb l5 m i fl0 hnm ht⟩
  split
  · rename_i h
    exact .inr ⟨nm, t, fl, rfl, ht, hnm, h.2⟩
  · exact .inl rfl
theorem ref_loop_any (t0 nm : List UInt8) (t : Nat) (fl0 : ByteArray) (hnm : nm.length ≤ 1000) (ht : t < 18446744073709551616) (m : Nat) (hm : m < 256) :
    ∀ (d i : Nat) (left : List UInt8) (bad : Bool) (b : List Int), i + d = m → b.length ≤ 5000 →
      ∃ R, Ends2 t0 R ∧ Ev (fun k => rootcellarref17_Take.l0 k (ba t0) (m : Int) b (i : Int) (ba left) bad (ba nm) (t : Int) fl0) R := by
  intro d
  induction d with
  | zero =>
    intro i left bad b hi hb
    obtain ⟨R, hR, hE⟩ := ref_fin_any t0 nm t bad b (ba left) (m : Int) (i : Int) fl0 hnm ht
    refine ⟨R, hR, Ev.step (fun k => ?_) hE⟩
    simp only [rootcellarref17_Take.l0]
    rw [if_neg (by omega)]
  | succ d ih =>
    intro i left bad b hi hb
    cases bad with
    | true =>
      obtain ⟨R, hR, hE⟩ := ref_fin_any t0 nm t true b (ba left) (m : Int) (i : Int) fl0 hnm ht
      refine ⟨R, hR, Ev.step (fun k => ?_) hE⟩
      simp only [rootcellarref17_Take.l0]
      rw [if_pos (by omega)]
      rfl
    | false =>
      have a1 := rnum_all left false 1 (by omega)
      have b1 := numP_lt left false 1
      generalize numP left false 1 = N1 at a1 b1
      obtain ⟨v1, l1, c1⟩ := N1
      have a2 := rnum_all l1 c1 1 (by omega)
      have b2 := numP_lt l1 c1 1
      generalize numP l1 c1 1 = N2 at a2 b2
      obtain ⟨v2, l2, c2⟩ := N2
      have hx := rtxt_all l2 c2 ((16 * v2 : Nat) : Int)
      have hl := (txtP_len l2 c2 (16 * v2)).1
      generalize txtP l2 c2 ((16 * v2 : Nat) : Int) = X at hx hl
      obtain ⟨x, l3, c3⟩ := X
      simp only at a1 a2 b1 b2 hx hl
      rw [show ((1 : Nat) : Int) = 1 from rfl] at a1 a2
      obtain ⟨R, hR, hE⟩ := ih (i + 1) l3 c3 (over b (16 * v1 + 0) (x.drop 0)) (by omega) (by rw [over_len]; exact hb)
      refine ⟨R, hR, ?_⟩
      have hO := ref_over t0 x l3 nm c3 (t : Int) (m : Int) (i : Int) fl0 v1 R (by omega) (by omega) x.length 0 b (by omega) hb (by rw [wadd1' i (by omega)]; exact hE)
      refine Ev.step (f := fun k => rootcellarref17_Take.j1 k (ba t0) (m : Int) b (i : Int) true (ba left) false (ba nm) (t : Int) fl0) (fun k => ?_) ?_
      · simp only [rootcellarref17_Take.l0]
        rw [if_pos (by omega)]
        rfl
      · refine Ev.step (fun k => by simp only [rootcellarref17_Take.j1]; rw [if_pos trivial]) ?_
        refine Ev.bind a1 ?_
        refine Ev.bind a2 ?_
        refine Ev.congr (fun k => ?_) hO
        simp only
        rw [w64n v2 (by omega), w64n v1 (by omega), show wrap64 (16 * (v2 : Int)) = ((16 * v2 : Nat) : Int) by rw [w64 _ (by omega) (by omega)]; omega, hx, Option.bind_some]
        rfl
theorem ref_good (t0 nm fl : List UInt8) (t n m : Nat) (fl0 : ByteArray) (hfl : fl.length = 16 * n) (hn : n ≤ 64) (hnm : nm.length ≤ 1000) (ht : t < 18446744073709551616) (hm : m < 256) (hP : putP nm t fl = (ba t0, 0)) :
    ∀ (r : List Run) (e i : Nat), Good fl e r → i + r.length = m → e ≤ n →
      Ev (fun k => rootcellarref17_Take.l0 k (ba t0) (m : Int) (toI (fl.take (16 * e) ++ List.replicate (16 * (n - e)) 0)) (i : Int) (ba (bodyR r)) false (ba nm) (t : Int) fl0) (ba nm, (t : Int), ba fl, 0) := by
  intro r
  induction r with
  | nil =>
    intro e i hg hi he
    simp only [List.length_nil] at hi
    rw [good_nil fl n e hfl hg]
    have hE := ref_fin t0 nm fl t false (toI fl) (toI_str fl) (ba (bodyR [])) (m : Int) (i : Int) fl0 hnm ht
    rw [if_pos ⟨rfl, hP⟩] at hE
    refine Ev.step (fun k => ?_) hE
    simp only [rootcellarref17_Take.l0]
    rw [if_neg (by omega)]
  | cons x r ih =>
    intro e i hg hi he
    obtain ⟨h1, h2, v, hv0, hsz, hle, hz, hx, hr⟩ := hg
    have hf := x.2.1
    have hvn : v ≤ 64 := by omega
    simp only [List.length_cons] at hi
    have hxl : x.1.2.data.toList.length = 16 * v := by rw [show x.1.2.data.toList.length = x.1.2.size from Array.length_toList, hsz]
    have a1 := rnum_all (bodyR (x :: r)) false 1 (by omega)
    rw [body_cons x r v hsz, numP_put _ _ _ (by omega), ← body_cons x r v hsz] at a1
    have a2 := rnum_all (putN v 1 ++ (x.1.2.data.toList ++ bodyR r)) false 1 (by omega)
    rw [numP_put _ _ _ (by omega)] at a2
    have a3 := rtxt_all (x.1.2.data.toList ++ bodyR r) false ((x.1.2.data.toList.length : Nat) : Int)
    rw [txtP_app, hxl] at a3
    rw [show ((1 : Nat) : Int) = 1 from rfl] at a1 a2
    simp only at a1 a2 a3
    have hE := ih (x.1.1 + v) (i + 1) hr (by omega) (by omega)
    have hlen : (toI (fl.take (16 * e) ++ List.replicate (16 * (n - e)) 0)).length = 16 * n := by rw [toI_len, List.length_append, List.length_take, List.length_replicate]; omega
    have hov : over (toI (fl.take (16 * e) ++ List.replicate (16 * (n - e)) 0)) (16 * x.1.1 + 0) (x.1.2.data.toList.drop 0) = toI (fl.take (16 * (x.1.1 + v)) ++ List.replicate (16 * (n - (x.1.1 + v))) 0) := by
      rw [Nat.add_zero, List.drop_zero, over_val _ _ _ (by rw [hlen, hxl]; omega), hxl, ← good_step fl e x.1.1 v h1 hz]
      have e1 : (toI (fl.take (16 * e) ++ List.replicate (16 * (n - e)) 0)).take (16 * x.1.1) = toI (fl.take (16 * e) ++ List.replicate (16 * (x.1.1 - e)) 0) := by
        unfold toI
        rw [← List.map_take, List.take_append, List.take_of_length_le (by rw [List.length_take]; omega), List.take_replicate, List.length_take, show min (16 * x.1.1 - min (16 * e) fl.length) (16 * (n - e)) = 16 * (x.1.1 - e) by omega]
      have e2 : (toI (fl.take (16 * e) ++ List.replicate (16 * (n - e)) 0)).drop (16 * x.1.1 + 16 * v) = toI (List.replicate (16 * (n - (x.1.1 + v))) 0) := by
        unfold toI
        rw [← List.map_drop, List.drop_append, List.drop_eq_nil_of_le (by rw [List.length_take]; omega), List.nil_append, List.drop_replicate, List.length_take, show 16 * (n - e) - (16 * x.1.1 + 16 * v - min (16 * e) fl.length) = 16 * (n - (x.1.1 + v)) by omega]
      have e3 : x.1.2.data.toList = (fl.drop (16 * x.1.1)).take (16 * v) := by
        have := congrArg (fun s => s.data.toList) hx
        rw [ba_list] at this
        exact this
      rw [e1, e2, e3, ← toI_app, ← toI_app]
      simp only [List.append_assoc]
    have hO := ref_over t0 x.1.2.data.toList (bodyR r) nm false (t : Int) (m : Int) (i : Int) fl0 x.1.1 _ (by omega) (by omega) (16 * v) 0 (toI (fl.take (16 * e) ++ List.replicate (16 * (n - e)) 0)) (by omega) (by omega) (by rw [wadd1' i (by omega), hov]; exact hE)
    refine Ev.step (f := fun k => rootcellarref17_Take.j1 k (ba t0) (m : Int) (toI (fl.take (16 * e) ++ List.replicate (16 * (n - e)) 0)) (i : Int) true (ba (bodyR (x :: r))) false (ba nm) (t : Int) fl0) (fun k => ?_) ?_
    · simp only [rootcellarref17_Take.l0]
      rw [if_pos (by omega)]
      rfl
    · refine Ev.step (fun k => by simp only [rootcellarref17_Take.j1]; rw [if_pos trivial]) ?_
      refine Ev.bind a1 ?_
      refine Ev.bind a2 ?_
      refine Ev.congr (fun k => ?_) hO
      simp only
      rw [w64n v (by omega), w64n x.1.1 (by omega), show wrap64 (16 * (v : Int)) = ((16 * v : Nat) : Int) by rw [w64 _ (by omega) (by omega)]; omega, a3, Option.bind_some]
      rfl
theorem ref_take_right (t0 nm fl : List UInt8) (t : Nat) (h : IsPut t0 nm t fl) : Ev (fun k => rootcellarref17_Take.f k (ba t0)) (ba nm, (t : Int), ba fl, 0) := by
  obtain ⟨hr, ht0⟩ := isPut_text h
  obtain ⟨ht, hnm, hP⟩ := h
  obtain ⟨h16, hl, hpos⟩ := rightP_flat hr
  have hn96 := rightP_name hr
  have hrl := runsT_len fl hl
  have hs := rtake_eq t0 (by rw [ht0, sealed_length]; have := seal_text nm fl t (by omega) (by omega); omega)
  rw [ht0, unsealed_sealed, ← ht0] at hs
  have hg := ref_good t0 nm fl t (fl.length / 16) (runsT fl).length ⟨#[]⟩ (by omega) (by omega) hnm ht (by omega) hP (runsT fl) 0 0 (runsT_good fl h16 hl) (by omega) (by omega)
  have b0 : rootcellarref2_Reader_Text.f (ba (textT nm t fl)) false 4 = some (ba [114, 99, 115, 116], ba (putN (fl.length / 16) 1 ++ (putN t 8 ++ (putN nm.length 1 ++ (nm ++ (putN (runsT fl).length 1 ++ bodyR (runsT fl)))))), false) := by
    have h := rtxt_all (textT nm t fl) false (([114, 99, 115, 116] : List UInt8).length : Nat)
    rw [text_split, txtP_app] at h
    rw [text_split]
    exact h
  have num : ∀ (a b : Nat) (r : List UInt8), b ≤ 8 → a < 256 ^ b → Ev (fun k => rootcellarref2_Reader_Number.f k (ba (putN a b ++ r)) false (b : Int)) ((a : Int), ba r, false) := by
    intro a b r hb ha
    have h := rnum_all (putN a b ++ r) false b hb
    rw [numP_put _ _ _ ha] at h
    exact h
  have b1 := num (fl.length / 16) 1 (putN t 8 ++ (putN nm.length 1 ++ (nm ++ (putN (runsT fl).length 1 ++ bodyR (runsT fl))))) (by omega) (by omega)
  have b2 := num t 8 (putN nm.length 1 ++ (nm ++ (putN (runsT fl).length 1 ++ bodyR (runsT fl)))) (by omega) (by rw [show (256 : Nat) ^ 8 = 18446744073709551616 by simp]; exact ht)
  have b3 := num nm.length 1 (nm ++ (putN (runsT fl).length 1 ++ bodyR (runsT fl))) (by omega) (by omega)
  have b5 := num (runsT fl).length 1 (bodyR (runsT fl)) (by omega) (by omega)
  have b4 : rootcellarref2_Reader_Text.f (ba (nm ++ (putN (runsT fl).length 1 ++ bodyR (runsT fl)))) false ((nm.length : Nat) : Int) = some (ba nm, ba (putN (runsT fl).length 1 ++ bodyR (runsT fl)), false) := by
    have h := rtxt_all (nm ++ (putN (runsT fl).length 1 ++ bodyR (runsT fl))) false ((nm.length : Nat) : Int)
    rw [txtP_app] at h
    exact h
  rw [show ((1 : Nat) : Int) = 1 from rfl] at b1 b3 b5
  rw [show ((8 : Nat) : Int) = 8 from rfl] at b2
  refine Ev.bind hs ?_
  refine Ev.congr (fun k => by simp only; rw [if_pos trivial, b0, Option.bind_some]) ?_
  refine Ev.bind b1 ?_
  refine Ev.bind b2 ?_
  refine Ev.bind b3 ?_
  refine Ev.congr (fun k => by simp only; rw [w64n nm.length (by omega), b4, Option.bind_some]) ?_
  refine Ev.bind b5 ?_
  refine Ev.congr (fun k => ?_) hg
  simp only
  rw [w64n (fl.length / 16) (by omega), w64n (runsT fl).length (by omega), show wrap64 (16 * ((fl.length / 16 : Nat) : Int)) = ((16 * (fl.length / 16) : Nat) : Int) by rw [w64 _ (by omega) (by omega)]; omega, if_pos (by omega), Int.toNat_natCast, if_pos (by omega)]
  rw [show List.replicate (16 * (fl.length / 16)) (0 : Int) = toI (fl.take (16 * 0) ++ List.replicate (16 * (fl.length / 16 - 0)) 0) by rw [Nat.mul_zero, List.take_zero, List.nil_append, toI_zero, Nat.sub_zero]]
  rfl
theorem ref_take_any (t0 : List UInt8) (hl : t0.length ≤ 1000000) (h0 : (unsealed t0).2 = 0) : ∃ R, Ends2 t0 R ∧ Ev (fun k => rootcellarref17_Take.f k (ba t0)) R := by
  have hs := rtake_eq t0 (by omega)
  rw [h0] at hs
  generalize (unsealed t0).1 = u at hs
  have b0 := rtxt_all u false 4
  generalize txtP u false 4 = X0 at b0
  obtain ⟨name, l0, c0⟩ := X0
  have b1 := rnum_all l0 c0 1 (by omega)
  have d1 := numP_lt l0 c0 1
  generalize numP l0 c0 1 = X1 at b1 d1
  obtain ⟨n, l1, c1⟩ := X1
  have b2 := rnum_all l1 c1 8 (by omega)
  have d2 := numP_lt l1 c1 8
  generalize numP l1 c1 8 = X2 at b2 d2
  obtain ⟨t, l2, c2⟩ := X2
  have b3 := rnum_all l2 c2 1 (by omega)
  have d3 := numP_lt l2 c2 1
  generalize numP l2 c2 1 = X3 at b3 d3
  obtain ⟨nn, l3, c3⟩ := X3
  have b4 := rtxt_all l3 c3 ((nn : Nat) : Int)
  have d4 := (txtP_len l3 c3 nn).1
  generalize txtP l3 c3 ((nn : Nat) : Int) = X4 at b4 d4
  obtain ⟨nm, l4, c4⟩ := X4
  have b5 := rnum_all l4 c4 1 (by omega)
  have d5 := numP_lt l4 c4 1
  generalize numP l4 c4 1 = X5 at b5 d5
  obtain ⟨m, l5, c5⟩ := X5
  simp only at b0 b1 b2 b3 b4 b5 d1 d2 d3 d4 d5
  rw [show (256 : Nat) ^ 8 = 18446744073709551616 by simp] at d2
  obtain ⟨R, hR, hE⟩ := ref_loop_any t0 nm t ⟨#[]⟩ (by omega) d2 m (by omega) m 0 l5 c5 (List.replicate (16 * n) 0) (by omega) (by rw [List.length_replicate]; omega)
  rw [show ((1 : Nat) : Int) = 1 from rfl] at b1 b3 b5
  rw [show ((8 : Nat) : Int) = 8 from rfl] at b2
  refine ⟨R, hR, ?_⟩
  refine Ev.bind hs ?_
  refine Ev.congr (fun k => by simp only; rw [if_pos trivial, b0, Option.bind_some]) ?_
  refine Ev.bind b1 ?_
  refine Ev.bind b2 ?_
  refine Ev.bind b3 ?_
  refine Ev.congr (fun k => by simp only; rw [w64n nn (by omega), b4, Option.bind_some]) ?_
  refine Ev.bind b5 ?_
  refine Ev.congr (fun k => ?_) hE
  simp only
  rw [w64n n (by omega), w64n m (by omega), show wrap64 (16 * (n : Int)) = ((16 * n : Nat) : Int) by rw [w64 _ (by omega) (by omega)]; omega, if_pos (by omega), Int.toNat_natCast, if_pos (by omega)]
  rfl
theorem ref_take17 (t0 : List UInt8) (hl : t0.length ≤ 1000000) : ∃ R, TakeSpec t0 R ∧ Ev (fun k => rootcellarref17_Take.f k (ba t0)) R := by
  by_cases h0 : (unsealed t0).2 = 0
  · by_cases hp : ∃ nm t fl, IsPut t0 nm t fl
    · obtain ⟨nm, t, fl, h⟩ := hp
      refine ⟨_, ⟨fun hh => absurd h0 hh, fun nm' t' fl' h' => ?_, fun _ hh => absurd h (hh _ _ _)⟩, ref_take_right t0 nm fl t h⟩
      obtain ⟨rfl, rfl, rfl⟩ := put_inj h h'
      rfl
    · obtain ⟨R, hR, hE⟩ := ref_take_any t0 hl h0
      refine ⟨R, ⟨fun hh => absurd h0 hh, fun nm t fl h => absurd ⟨nm, t, fl, h⟩ hp, fun _ _ => ?_⟩, hE⟩
      rcases hR with rfl | ⟨nm, t, fl, _, h⟩
      · rfl
      · exact absurd ⟨nm, t, fl, h⟩ hp
  · refine ⟨refusedR (unsealed t0).2, ⟨fun _ => rfl, fun nm t fl h => ?_, fun h => absurd h h0⟩, ?_⟩
    · obtain ⟨_, e⟩ := isPut_text h
      rw [e, unsealed_sealed] at h0
      exact absurd rfl h0
    · refine Ev.bind (rtake_eq t0 (by omega)) ?_
      refine Ev.congr (f := fun _ => some _) (fun k => ?_) (Ev.now _)
      simp only
      rw [if_neg h0]
      rfl
end Go.Proofs.YtfoniidbkbmjeaaDoor.Pu
end
section
/- StreamFinds in plain words. -/




namespace Go.Proofs.YtfoniidbkbmjeaaDoor.Pu
open Go Go.Lib Go.RowKit Go.Proofs.YtfoniidbkbmjeaaDoor.Pl Go.Proofs.YtfoniidbkbmjeaaDoor.Lf Go.Proofs.YtfoniidbkbmjeaaDoor.Fn Go.Proofs.YtfoniidbkbmjeaaDoorW.PrintWords
theorem seal_text' (nm fl : List UInt8) (t : Nat) (h1 : nm.length ≤ 200) (h2 : fl.length ≤ 1100) : (textT nm t fl).length ≤ 900000 := by
  have h := bodyR_len (runsT fl)
  have h3 : (runsT fl).length ≤ fl.length / 16 + 1 := restY_len _ _ _ _ _
  have h4 : ([114, 99, 115, 116] : List UInt8).length = 4 := rfl
  unfold textT headT
  simp only [List.length_append, putN_length, h4]
  omega
/-- The bits from at on, fewer than j, are turned as W says. -/
def TurnedTo (L M : List UInt8) (at_ : Nat) (W : BitVec 32) (j : Nat) : Prop := M.length = L.length ∧ ∀ k, bitsF M k = (bitsF L k ^^ (decide (at_ ≤ k ∧ k < at_ + j) && W.getLsbD (k - at_)))
theorem turnedTo_all {L M : List UInt8} {at_ : Nat} {W : BitVec 32} (h : TurnedTo L M at_ W 32) : Turned L M at_ W := by
  refine ⟨h.1, fun k => ?_⟩
  rw [h.2 k]
  by_cases hk : k < at_ + 32
  · congr 2
    rw [decide_eq_decide]
    omega
  · rw [BitVec.getLsbD_of_ge _ _ (by omega), Bool.and_false, Bool.and_false]
theorem bit_is (W : BitVec 32) (j : Nat) (hj : j < 32) : Go.bits .and .u32 (shr .u32 ((W.toNat : Nat) : Int) (j : Int)) 1 = if W.getLsbD j then 1 else 0 := by
  have hW := W.isLt
  have e : shr .u32 ((W.toNat : Nat) : Int) (j : Int) = ((W.toNat / 2 ^ j : Nat) : Int) := by
    unfold shr
    rw [Int.toNat_natCast, show min j (IntKind.bits .u32) = j from Nat.min_eq_left (by show j ≤ 32; omega)]
    norm_cast
  have hle : W.toNat / 2 ^ j ≤ W.toNat := Nat.div_le_self _ _
  have h := u32_and_nat (W.toNat / 2 ^ j) 1 (by omega) (by omega)
  rw [show ((1 : Nat) : Int) = 1 from rfl] at h
  rw [e, h, nat_mask1]
  have : W.getLsbD j = decide (W.toNat / 2 ^ j % 2 = 1) := by
    rw [BitVec.getLsbD, Nat.testBit_eq_decide_div_mod_eq]
  rw [this]
  by_cases hb : W.toNat / 2 ^ j % 2 = 1
  · rw [hb]; rfl
  · rw [show W.toNat / 2 ^ j % 2 = 0 by omega]; rfl
theorem shl_one (m : Nat) (h : m < 8) : shl .u8 1 (m : Int) = ((2 ^ m : Nat) : Int) := by
  have key : ∀ m : Fin 8, shl .u8 1 ((m.val : Nat) : Int) = ((2 ^ m.val : Nat) : Int) := by decide +kernel
  exact key ⟨m, h⟩
theorem rd_toI (M : List UInt8) (i : Nat) : rd (toI M) (i : Int) = (((M.getD i 0).toNat : Nat) : Int) := by
  unfold rd toI
  rw [Int.toNat_natCast, List.getD_eq_getElem?_getD, List.getD_eq_getElem?_getD, List.getElem?_map]
  cases M[i]? <;> rfl
theorem set_toI (M : List UInt8) (i n : Nat) (h : n < 256) : (toI M).set i (n : Int) = toI (M.set i (UInt8.ofNat n)) := by
  unfold toI
  rw [List.map_set, UInt8.toNat_ofNat', Nat.mod_eq_of_lt h]
theorem unsealed_w (l : List UInt8) : (unsealed l).2 = 0 ∨ (unsealed l).2 = 9 ∨ (unsealed l).2 = 10 := by
  unfold unsealed
  split
  · exact .inr (.inr rfl)
  · split
    · exact .inl rfl
    · exact .inr (.inl rfl)
theorem turned_unseals {l M : List UInt8} {at_ : Nat} {W : BitVec 32} (h : Turned (sealed l) M at_ W) (hat : at_ + 32 ≤ 8 * (sealed l).length) (hW : W ≠ 0#32) : (unsealed M).2 = 9 := by
  rcases unsealed_w M with h0 | h0 | h0
  · exfalso
    obtain ⟨e, _⟩ := sealed_unsealed M h0
    have a := rest_sum (unsealed M).1
    have b := rest_sum l
    have e' : (unsealed M).1 ++ putN (crc (unsealed M).1).toNat 4 = M := e
    rw [e'] at a
    exact turned_ne h hat hW _ (a.trans b.symm)
  · exact h0
  · exfalso
    have hl : M.length = l.length + 4 := by rw [h.1, sealed_length]
    unfold unsealed at h0
    rw [if_neg (by omega)] at h0
    split at h0
    · exact absurd (show (0 : Int) = 10 from h0) (by decide)
    · exact absurd (show (9 : Int) = 10 from h0) (by decide)
theorem finds_end (l M : List UInt8) (at_ : Nat) (W : BitVec 32) (j : Nat) (hj : j = 32) (hl : l.length ≤ 900000) (h : Turned (sealed l) M at_ W) (hat : at_ + 32 ≤ 8 * (sealed l).length) (hW : W ≠ 0#32) :
    Ev (fun k => rootcellarlaw17_StreamFinds.l0 k (at_ : Int) ((W.toNat : Nat) : Int) (ba (sealed l)) (toI M) (j : Int)) true := by
  have hs := sealed_length l
  have hM := h.1
  have h9 := turned_unseals h hat hW
  obtain ⟨R, hR, hE⟩ := stream_take M (by omega)
  have eR := hR.1 (by rw [h9]; decide)
  rw [h9] at eR
  subst eR
  have h10 : (unsealed ((sealed l).take 3)).2 = 10 := by
    unfold unsealed
    rw [if_pos (by rw [List.length_take]; omega)]
  obtain ⟨R, hR, hE'⟩ := stream_take ((sealed l).take 3) (by rw [List.length_take]; omega)
  have eR := hR.1 (by rw [h10]; decide)
  rw [h10] at eR
  subst eR
  refine Ev.step (fun k => by simp only [rootcellarlaw17_StreamFinds.l0]; rw [if_neg (by omega), toI_str]) ?_
  refine Ev.bind hE ?_
  have e3 : mn 3 ((ba (sealed l)).size : Int) = 3 := by
    unfold mn
    rw [ba_size, if_neg (by omega)]
  refine Ev.congr (fun k => by rw [e3, if_pos (by decide), if_pos (by rw [ba_size]; omega), show (3 : Int).toNat = 3 from rfl, ba_take]) ?_
  refine Ev.bind hE' ?_
  refine Ev.congr (f := fun _ => some true) (fun k => ?_) (Ev.now _)
  unfold refusedR
  simp only [ba_toList]
  rfl
theorem finds_loop (l : List UInt8) (at_ : Nat) (W : BitVec 32) (hl : l.length ≤ 900000) (hat : at_ + 32 ≤ 8 * (sealed l).length) (hW : W ≠ 0#32) : ∀ (d j : Nat) (M : List UInt8), j + d = 32 → TurnedTo (sealed l) M at_ W j →
    Ev (fun k => rootcellarlaw17_StreamFinds.l0 k (at_ : Int) ((W.toNat : Nat) : Int) (ba (sealed l)) (toI M) (j : Int)) true := by
  have hs := sealed_length l
  intro d
  induction d with
  | zero =>
    intro j M hj h
    obtain rfl : j = 32 := by omega
    exact finds_end l M at_ W 32 rfl hl (turnedTo_all h) hat hW
  | succ d ih =>
    intro j M hj h
    have hM := h.1
    have e1 : wrap64 ((at_ : Int) + (j : Int)) = ((at_ + j : Nat) : Int) := by rw [w64 _ (by omega) (by omega)]; omega
    have e2 : wrap64 (Int.tdiv ((at_ + j : Nat) : Int) 8) = (((at_ + j) / 8 : Nat) : Int) := by
      rw [Int.tdiv_eq_ediv_of_nonneg (by omega), w64 _ (by omega) (by omega)]; omega
    have e3 : Int.tmod ((at_ + j : Nat) : Int) 8 = (((at_ + j) % 8 : Nat) : Int) := by
      rw [Int.tmod_eq_emod_of_nonneg (by omega)]; omega
    cases hb : W.getLsbD j with
    | false =>
      refine Ev.step (fun k => ?_) (ih (j + 1) M (by omega) ⟨hM, fun k => ?_⟩)
      · simp only [rootcellarlaw17_StreamFinds.l0]
        rw [if_pos (by omega), if_pos (by omega), bit_is W j (by omega), hb, if_neg (by decide), wadd1' j (by omega)]
      · rw [h.2 k]
        by_cases hk : k = at_ + j
        · subst hk
          rw [show at_ + j - at_ = j by omega, hb, Bool.and_false, Bool.and_false]
        · congr 2
          rw [decide_eq_decide]
          omega
    | true =>
      have hp : (at_ + j) / 8 < M.length := by omega
      have hlt : (M.getD ((at_ + j) / 8) 0).toNat ^^^ 2 ^ ((at_ + j) % 8) < 256 := Nat.xor_lt_two_pow (n := 8) (M.getD ((at_ + j) / 8) 0).toNat_lt (Nat.pow_lt_pow_right (by omega) (Nat.mod_lt _ (by omega)))
      have hpw : 2 ^ ((at_ + j) % 8) < 256 := Nat.pow_lt_pow_right (m := (at_ + j) % 8) (n := 8) (by omega) (Nat.mod_lt _ (by omega))
      refine Ev.step (fun k => ?_) (ih (j + 1) (M.set ((at_ + j) / 8) (UInt8.ofNat ((M.getD ((at_ + j) / 8) 0).toNat ^^^ 2 ^ ((at_ + j) % 8)))) (by omega) ⟨by rw [List.length_set]; exact hM, fun k => ?_⟩)
      · simp only [rootcellarlaw17_StreamFinds.l0]
        rw [if_pos (by omega), if_pos (by omega), bit_is W j (by omega), hb, if_pos rfl, if_pos rfl, e1, e2, e3, if_pos (by omega), if_pos (by rw [toI_len]; omega), if_pos (by omega), rd_toI, shl_one _ (Nat.mod_lt _ (by omega)), u8_xor_nat _ _ (M.getD ((at_ + j) / 8) 0).toNat_lt hpw, Int.toNat_natCast, set_toI _ _ _ hlt, wadd1' j (by omega)]
      · rw [turn_one M (at_ + j) hp k, h.2 k]
        by_cases hk : k = at_ + j
        · subst hk
          rw [show at_ + j - at_ = j by omega, hb, decide_eq_false (p := at_ ≤ at_ + j ∧ at_ + j < at_ + j) (by omega), decide_eq_true (p := at_ ≤ at_ + j ∧ at_ + j < at_ + (j + 1)) (by omega), decide_eq_true rfl]
          simp
        · rw [decide_eq_false hk, Bool.xor_false]
          congr 2
          rw [decide_eq_decide]
          omega
theorem streamFinds (nm fl : List UInt8) (t : Nat) (at_ : Int) (W : BitVec 32) (ht : t < 18446744073709551616) : Ev (fun k => rootcellarlaw17_StreamFinds.f k (ba nm) (t : Int) (ba fl) at_ ((W.toNat : Nat) : Int)) true := by
  have fin : ∀ x8, Ev (fun k => rootcellarlaw17_StreamFinds.j1 k at_ ((W.toNat : Nat) : Int) x8 true) true := fun x8 => by
    refine Ev.step (f := fun _ => some true) (fun k => ?_) (Ev.now _)
    simp only [rootcellarlaw17_StreamFinds.j1]
    exact if_pos trivial
  have body : ∀ q : Bool, (q = false → nm.length ≤ 200 ∧ fl.length ≤ 1100) → Ev (fun k => rootcellarlaw17_StreamFinds.j0 k at_ ((W.toNat : Nat) : Int) true q (ba nm) (t : Int) (ba fl)) true := by
    intro q hq
    cases q with
    | true =>
      refine Ev.step (f := fun _ => some true) (fun k => ?_) (Ev.now _)
      simp only [rootcellarlaw17_StreamFinds.j0]
      exact if_pos trivial
    | false =>
      obtain ⟨h1, h2⟩ := hq rfl
      have hl := seal_text' nm fl t h1 h2
      have hs := sealed_length (textT nm t fl)
      refine Ev.step (fun k => by simp only [rootcellarlaw17_StreamFinds.j0]; rw [if_neg (by decide), stream_put nm fl t h1 ht, Option.bind_some]) ?_
      unfold putP
      by_cases hr : rightP nm fl = true
      · rw [if_pos hr]
        refine Ev.congr (fun k => if_pos rfl) ?_
        have e8 : wrap64 (wrap64 (8 * ((ba (sealed (textT nm t fl))).size : Int)) - 32) = ((8 * (sealed (textT nm t fl)).length : Nat) : Int) - 32 := by
          rw [ba_size, w64 (8 * _) (by omega) (by omega), w64 _ (by omega) (by omega)]
          omega
        by_cases hW : W = 0#32
        · subst hW
          exact Ev.congr (fun k => if_pos rfl) (fin _)
        · have hW0 : ¬ ((W.toNat : Nat) : Int) = 0 := fun h => hW (BitVec.eq_of_toNat_eq (by simpa using h))
          refine Ev.congr (fun k => if_neg hW0) ?_
          by_cases ha : at_ < 0
          · exact Ev.congr (fun k => if_pos ha) (fin _)
          · refine Ev.congr (fun k => by rw [if_neg ha, e8]) ?_
            by_cases hb : at_ > ((8 * (sealed (textT nm t fl)).length : Nat) : Int) - 32
            · rw [decide_eq_true hb]
              exact fin _
            · rw [decide_eq_false hb]
              obtain ⟨a, rfl⟩ : ∃ a : Nat, at_ = (a : Int) := ⟨at_.toNat, by omega⟩
              have hz := finds_loop (textT nm t fl) a W hl (by omega) hW 32 0 (sealed (textT nm t fl)) (by omega) ⟨rfl, fun k => by rw [decide_eq_false (by omega), Bool.false_and, Bool.xor_false]⟩
              refine Ev.step (fun k => ?_) hz
              simp only [rootcellarlaw17_StreamFinds.j1]
              rw [if_neg (by decide), if_pos (by rw [ba_size]; omega)]
              rw [show toI (sealed (textT nm t fl)) = Go.Proofs.YtfoniidbkbmjeaaDoorW.PrintWords.bytesOf (ba (sealed (textT nm t fl))) by unfold toI Go.Proofs.YtfoniidbkbmjeaaDoorW.PrintWords.bytesOf; rw [ba_list]]
              rfl
      · rw [if_neg hr]
        exact Ev.congr (fun k => if_neg (by decide)) (fin _)
  unfold rootcellarlaw17_StreamFinds.f
  rw [shown17]
  refine Ev.congr (fun k => by rw [Option.bind_some, if_pos rfl, ba_size, ba_size]) ?_
  by_cases h1 : nm.length > 200
  · refine Ev.congr (fun k => by rw [if_pos (by omega)]) (body true (by simp))
  · refine Ev.congr (fun k => by rw [if_neg (by omega)]) (body _ (fun h => ⟨by omega, by have := of_decide_eq_false h; omega⟩))
theorem StreamFinds (a : ByteArray) (b : Int) (c : ByteArray) (d e : Int) (hb : 0 ≤ b ∧ b < 18446744073709551616) (he : 0 ≤ e ∧ e < 4294967296) : ∃ k, rootcellarlaw17_StreamFinds.f k a b c d e = some true := by
  obtain ⟨nm, rfl⟩ := ex_ba a
  obtain ⟨fl, rfl⟩ := ex_ba c
  obtain ⟨t, rfl⟩ : ∃ t : Nat, b = (t : Int) := ⟨b.toNat, by omega⟩
  obtain ⟨W, rfl⟩ : ∃ W : BitVec 32, e = ((W.toNat : Nat) : Int) := ⟨BitVec.ofNat 32 e.toNat, by rw [BitVec.toNat_ofNat, Nat.mod_eq_of_lt (by omega)]; omega⟩
  exact (streamFinds nm fl t d W (by omega)).rounds
end Go.Proofs.YtfoniidbkbmjeaaDoor.Pu
end
