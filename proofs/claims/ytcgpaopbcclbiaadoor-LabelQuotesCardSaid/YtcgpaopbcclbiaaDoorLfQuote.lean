/- label.wrong and label.Quote, walked: a text as a quoted word, rune by rune. -/
import Derived.Test.YtcgpaopbcclbiaaDoorLfFirst
import Derived.Test.YtcgpaopbcclbiaaDoorLfHex
import Derived.Test.YtcgpaopbcclbiaaDoorLfShelf
import Derived.Test.YtcgpaopbcclbiaaDoorLfBuild
import Derived.Lib.OthersKept
import Derived.Lib.RuneBytes
import Derived.BigCall
namespace Go.Proofs.YtcgpaopbcclbiaaDoor.Lf
open Go.RowKit Go.Lib Go.Proofs.YtcgpaopbcclbiaaDoor.Pl
theorem builder_below {T e : TypeId} {B b : Nat} {bs : List Value} {w w1 : World} (h : Lib.IsBuilderF T e B b bs w) (hb : Below w.heap.size w w1) : Lib.IsBuilderF T e B b bs w1 := by
  have key : ∀ p, Lib.BuilderAtF T e B b p bs w → Lib.BuilderAtF T e B b p bs w1 := by
    rintro p ⟨hB, v, hv, ⟨hl, hown⟩, hne⟩
    have hlt : b < w.heap.size := (Array.getElem?_eq_some_iff.1 hv).1
    refine ⟨hB, v, (hb.block b hlt).trans hv, ⟨hl, ?_⟩, hne⟩
    rcases hown with hn | ⟨g, cap, cur, fz, h1, h2, h3, h4⟩
    · exact Or.inl hn
    · exact Or.inr ⟨g, cap, cur, fz, h1, h2, (hb.block g (Array.getElem?_eq_some_iff.1 h3).1).trans h3, h4⟩
  exact h.elim (fun x => .inl (key _ x)) (fun x => .inr (key _ x))
theorem iter_stays {w w1 : World} {k : Nat} {s : ByteArray} {pos : Nat} (h : w.heap[k]? = some (.stringIter s pos)) (hb : Below w.heap.size w w1) : w1.heap[k]? = some (.stringIter s pos) :=
  (hb.block k (Array.getElem?_eq_some_iff.1 h).1).trans h
theorem decGo_tail (s : ByteArray) (pos : Nat) (h : pos < s.size) : Lib.decodeGo (s.extract pos s.size) = Utf8.decode s pos := by
  have e : s.extract pos s.size = ⟨(s.data.toList.drop pos).toArray⟩ := by
    apply ByteArray.ext
    rw [ByteArray.data_extract]
    apply Array.toList_inj.1
    simp
    rw [List.take_of_length_le]
    rw [List.length_drop, Array.length_toList]
    exact Nat.le_refl _
  have hz : ¬ (s.extract pos s.size).size = 0 := by rw [ByteArray.size_extract]; omega
  unfold Lib.decodeGo
  rw [if_neg hz, e]
  exact dec_drop s pos
set_option maxHeartbeats 400000 in
set_option maxRecDepth 100000 in
theorem wrong_any (s : ByteArray) (w : World) (hT : Tabs w) :
    Calls Tryd.prog 18 #[.string s] w fun e w' => e = .returned (.bool (decide ((Lib.decodeGo s).1 = 65533 ∧ (Lib.decodeGo s).2 = 1))) ∧ Below w.heap.size w w' := by
  have c := Sh.utf8_DecodeRuneInString s w hT.out
  generalize (Lib.decodeGo s).1 = R at c ⊢
  generalize (Lib.decodeGo s).2 = K at c ⊢
  by_cases h1 : R = 65533
  · subst h1
    by_cases h2 : K = 1
    · subst h2
      rw [decide_eq_true ⟨rfl, rfl⟩]
      go_enter Tryd.func18, Tryd.ntmps18
      go_wp2_with (go_at_call 31; refine c.mono ?_; rintro e w' ⟨rfl, hb⟩)
      go_ret
      exact ⟨rfl, hb⟩
    · rw [decide_eq_false (fun h => h2 h.2)]
      have e2 : ((K : Int) == 1) = false := by simp; omega
      clear h2
      go_enter Tryd.func18, Tryd.ntmps18
      go_wp2_with (go_at_call 31; refine c.mono ?_; rintro e w' ⟨rfl, hb⟩)
      go_ret
      exact ⟨rfl, hb⟩
  · rw [decide_eq_false (fun h => h1 h.1)]
    have e1 : ((R : Int) == 65533) = false := by simp; omega
    clear h1
    go_enter Tryd.func18, Tryd.ntmps18
    go_wp2_with (go_at_call 31; refine c.mono ?_; rintro e w' ⟨rfl, hb⟩)
    go_ret
    exact ⟨rfl, hb⟩
/-- What stands for the rune in front. -/
def piece (l : List UInt8) : List UInt8 :=
  if (decodeL l).1 = 65533 ∧ (decodeL l).2 = 1 then [92, 33] ++ hexL (l.headD 0).toNat
  else if (decodeL l).1 = 92 then [92, 92]
  else if 32 < (decodeL l).1 ∧ (decodeL l).1 < 127 then encodeRune ((decodeL l).1 : Int)
  else [92, 123] ++ hexL (decodeL l).1 ++ [125]
def quoteGo : Nat → List UInt8 → List UInt8
  | 0, _ => []
  | n + 1, l => if l = [] then [] else piece l ++ quoteGo n (l.drop (decodeL l).2)
def quoteR (l : List UInt8) : List UInt8 := quoteGo l.length l
def quoteL (l : List UInt8) : List UInt8 := if l = [] then [92, 95] else quoteR l
theorem quoteGo_nil (n : Nat) : quoteGo n [] = [] := by cases n <;> simp [quoteGo]
theorem quoteGo_fuel : ∀ (n m : Nat) (l : List UInt8), l.length ≤ n → l.length ≤ m → quoteGo n l = quoteGo m l
  | 0, m, l, h, _ => by
    obtain rfl : l = [] := List.eq_nil_of_length_eq_zero (by omega)
    rw [quoteGo_nil, quoteGo_nil]
  | n + 1, 0, l, _, h => by
    obtain rfl : l = [] := List.eq_nil_of_length_eq_zero (by omega)
    rw [quoteGo_nil, quoteGo_nil]
  | n + 1, m + 1, l, h, k => by
    by_cases e : l = []
    · subst e; rw [quoteGo_nil, quoteGo_nil]
    · have hs := drop_short l e
      simp only [quoteGo, e, if_false]
      rw [quoteGo_fuel n m _ (by omega) (by omega)]
theorem quoteR_nil : quoteR [] = [] := rfl
theorem quoteR_cons (l : List UInt8) (h : l ≠ []) : quoteR l = piece l ++ quoteR (l.drop (decodeL l).2) := by
  have hs := drop_short l h
  unfold quoteR
  obtain ⟨n, hn⟩ : ∃ n, l.length = n + 1 := ⟨l.length - 1, by have := List.length_pos_iff.2 h; omega⟩
  rw [hn]
  simp only [quoteGo, h, if_false]
  rw [quoteGo_fuel n _ _ (by omega) (Nat.le_refl _)]
theorem quoteR_at (s : ByteArray) (pos : Nat) (h : pos < s.size) : quoteR (s.data.toList.drop pos) = piece (s.data.toList.drop pos) ++ quoteR (s.data.toList.drop (pos + (Utf8.decode s pos).2)) := by
  rw [quoteR_cons _ (by rw [ne_eq, List.drop_eq_nil_iff, Array.length_toList]; have : s.data.size = s.size := rfl; omega), dec_drop, List.drop_drop]
theorem quoteR_end (s : ByteArray) (pos : Nat) (h : ¬ pos < s.size) : quoteR (s.data.toList.drop pos) = [] := by
  rw [List.drop_eq_nil_of_le (by rw [Array.length_toList]; have : s.data.size = s.size := rfl; omega)]; rfl
theorem head_at (s : ByteArray) (pos : Nat) (h : pos < s.size) : (s.data.toList.drop pos).headD 0 = s[pos]'h := by
  rw [List.headD_eq_head?_getD, List.head?_drop, List.getElem?_eq_getElem (by rw [Array.length_toList]; exact h)]
  rfl
theorem hexL_len : ∀ (k n : Nat), n < 16 ^ (k + 1) → (hexL n).length ≤ k + 1
  | 0, n, h => by rw [hexL_lt (by simpa using h)]; simp
  | k + 1, n, h => by
    by_cases h16 : n < 16
    · rw [hexL_lt h16]; simp
    · rw [hexL_ge h16, List.length_append]
      have := hexL_len k (n / 16) (by rw [Nat.pow_succ] at h; omega)
      simp; omega
theorem hexL_pos (n : Nat) : 1 ≤ (hexL n).length := by
  by_cases h : n < 16
  · rw [hexL_lt h]; simp
  · rw [hexL_ge h]; simp
theorem decL_lt (l : List UInt8) : (decodeL l).1 ≤ 1114111 := by
  rw [decodeL_N]
  have h0 := (l.getD 0 0).toNat_lt
  have h1 := (l.getD 1 0).toNat_lt
  have h2 := (l.getD 2 0).toNat_lt
  have h3 := (l.getD 3 0).toNat_lt
  generalize l.length = n
  generalize (l.getD 0 0).toNat = b0 at *
  generalize (l.getD 1 0).toNat = b1 at *
  generalize (l.getD 2 0).toNat = b2 at *
  generalize (l.getD 3 0).toNat = b3 at *
  unfold decodeN
  repeat' split
  all_goals simp only
  all_goals omega
theorem piece_len (l : List UInt8) : (piece l).length ≤ 12 := by
  have h1 := decL_lt l
  have h2 := hexL_len 5 (decodeL l).1 (by omega)
  have h3 := hexL_len 5 (l.headD 0).toNat (by have := (l.headD 0).toNat_lt; omega)
  have h4 := Lib.runeCells_le ((decodeL l).1 : Int)
  rw [Lib.runeCells_length] at h4
  unfold piece
  by_cases c1 : (decodeL l).1 = 65533 ∧ (decodeL l).2 = 1
  · rw [if_pos c1]; simp only [List.length_append, List.length_cons, List.length_nil]; omega
  rw [if_neg c1]
  by_cases c2 : (decodeL l).1 = 92
  · rw [if_pos c2]; simp
  rw [if_neg c2]
  by_cases c3 : 32 < (decodeL l).1 ∧ (decodeL l).1 < 127
  · rw [if_pos c3]; omega
  · rw [if_neg c3]; simp only [List.length_append, List.length_cons, List.length_nil]; omega
theorem dec_fits (s : ByteArray) (pos : Nat) (h : pos < s.size) : pos + (Utf8.decode s pos).2 ≤ s.size := by
  have e : s.data.toList.drop pos ≠ [] := by rw [ne_eq, List.drop_eq_nil_iff, Array.length_toList]; have : s.data.size = s.size := rfl; omega
  have := decodeL_le _ e
  rw [dec_drop, List.length_drop, Array.length_toList] at this
  have : s.data.size = s.size := rfl
  omega
theorem str_cells (l : List UInt8) : Lib.strCells ⟨l.toArray⟩ = Lib.byteCells l := by simp [Lib.strCells, Lib.byteCells]
set_option maxHeartbeats 4000000 in
set_option maxRecDepth 1000000 in
theorem quote_any (s : ByteArray) (w : World) (hs : s.size ≤ 8796093022208) (hT : Tabs w) :
    Calls Tryd.prog 8 #[.string s] w fun e w' => e = .returned (.string ⟨(quoteL s.data.toList).toArray⟩) ∧ Below w.heap.size w w' := by
  obtain ⟨Q, hQ⟩ : ∃ Q, quoteL s.data.toList = Q := ⟨_, rfl⟩
  rw [hQ]
  unfold quoteL at hQ
  have hss : s.data.toList.length = s.size := by rw [Array.length_toList]; rfl
  by_cases he : s.data.toList = []
  · rw [if_pos he] at hQ
    subst hQ
    have e1 : s.toList = [] := by rw [toList_data]; exact he
    clear he
    go_enter Tryd.func8, Tryd.ntmps8
    go_wp2
    go_ret
    exact ⟨rfl, Below.refl _ _⟩
  · rw [if_neg he] at hQ
    have e1 : ¬ s.toList = [] := by rw [toList_data]; exact he
    have e2 : s.toList.isEmpty = false := by rw [toList_data]; simpa using he
    have HQ := Lib.hid hQ
    have HT := Lib.hid hT
    clear he hQ hT hss
    go_enter Tryd.func8, Tryd.ntmps8
    go_wp2
    go_loopw [] (fun wr => ∃ (pos : Nat) (acc : List UInt8), Lib.IsBuilderF 34 5 w.heap.size w.heap.size (Lib.byteCells acc) wr ∧ wr.heap[w.heap.size + 1]? = some (.stringIter s pos) ∧ Below w.heap.size w wr ∧ acc ++ quoteR (s.data.toList.drop pos) = Q ∧ acc.length ≤ 12 * pos ∧ pos ≤ s.size) (fun wr => s.size - wr.iterPos (w.heap.size + 1))
    case atStart =>
      refine ⟨0, [], (Lib.IsBuilderF.of (Lib.fresh_isBuilder 34 5 w)).alloc _, ?_, ((Below.refl _ w).alloc (Nat.le_refl _) _).alloc (by simp) _, by rw [← HQ.out]; rfl, by simp, by omega⟩
      have := World.iter_heap (w.alloc (.cells #[.pointer none, .slice none 0 0] 34)) s 0
      simpa using this
    case round =>
      obtain ⟨pos, acc, hI, hit, hbw, hacc, hal, hpo⟩ := hrel
      have hsz : w.heap.size + 1 < wr.heap.size := (Array.getElem?_eq_some_iff.1 hit).1
      have Hacc := Lib.hid hacc
      clear hacc
      by_cases hp : pos < s.size
      · have hnx : ∀ ty, (Instr.next (.pointer (some ⟨w.heap.size + 1, 0, none⟩)) true ty).run Tryd.prog wr = _ := fun ty => Lib.run_next_any_at wr (w.heap.size + 1) s pos ty hit hp
        have hwd := decode_width_pos s pos hp
        have hd1 := decode_le s pos
        have hI2 := hI.iterAt hit (pos + (Utf8.decode s pos).2)
        have hit2 := Lib.iterAt_heap wr (w.heap.size + 1) s pos (pos + (Utf8.decode s pos).2) hit
        have hbw2 := Lib.below_iterAt hbw (k := w.heap.size + 1) (by omega) s (pos + (Utf8.decode s pos).2)
        have hsz2 : w.heap.size ≤ (wr.iterAt (w.heap.size + 1) s (pos + (Utf8.decode s pos).2)).heap.size := by rw [Lib.iterAt_size]; omega
        have hlew := dec_fits s pos hp
        have hhead := Lib.hid (head_at s pos hp)
        have hqr := quoteR_at s pos hp
        have hpl := piece_len (s.data.toList.drop pos)
        have hgo := decGo_tail s pos hp
        have hlt4 := decL_lt (s.data.toList.drop pos)
        unfold piece at hqr
        obtain ⟨b0, hb0⟩ : ∃ b, (s[pos]'hp) = b := ⟨_, rfl⟩
        rw [dec_drop] at hqr hlt4
        rw [hhead.out, hb0] at hqr
        obtain ⟨⟨R, K⟩, hD⟩ : ∃ D, Utf8.decode s pos = D := ⟨_, rfl⟩
        rw [hD] at hnx hwd hd1 hI2 hit2 hbw2 hsz2 hlew hqr hgo hlt4
        simp only at hnx hwd hd1 hI2 hit2 hbw2 hsz2 hlew hqr hlt4
        generalize wr.iterAt (w.heap.size + 1) s (pos + K) = W2 at *
        have Hqr := Lib.hid hqr
        have Hgo := Lib.hid hgo
        have Hb0 := Lib.hid hb0
        have HD := Lib.hid hD
        clear hqr hgo hb0 hD hpl hhead
        have hT2 : Tabs W2 := HT.out.below hbw2
        have hb256 := b0.toNat_lt
        by_cases h1 : R = 65533
        · subst h1
          have cW := wrong_any (s.extract pos s.size) W2 hT2
          rw [Hgo.out] at cW
          by_cases h2 : K = 1
          · subst h2
            have cW2 := cW
            rw [decide_eq_true ⟨rfl, rfl⟩] at cW2
            clear cW
            go_wp2_with (go_at_call 18; refine cW2.mono ?_; rintro e W3 ⟨rfl, hb3⟩)
            have ew : wrap32 ((s[pos]'hp).toNat : Int) = (b0.toNat : Int) := by rw [Hb0.out]; unfold wrap32; omega
            rw [ew]
            have cH := byHex_any b0.toNat W3 (by omega) (hT2.below hb3)
            have hl := hexL_len 5 b0.toNat (by omega)
            obtain ⟨H, hH⟩ : ∃ H, hexL b0.toNat = H := ⟨_, rfl⟩
            rw [hH] at cH hl
            have HH := Lib.hid hH
            clear hH ew
            obtain ⟨S, hS⟩ : ∃ S : ByteArray, (⟨H.toArray⟩ : ByteArray) = S := ⟨_, rfl⟩
            rw [hS] at cH
            have hSs : S.size ≤ 6 := by rw [← hS]; simpa [ByteArray.size] using hl
            have HS := Lib.hid hS
            clear hS
            refine cH.mono ?_
            rintro e W4 ⟨rfl, hb4⟩
            have hb24 : Below W2.heap.size W2 W4 := hb3.trans (hb4.mono hb3.size)
            have hI4 := builder_below hI2 hb24
            have hit4 := iter_stays hit2 hb24
            have hlen : (Lib.byteCells acc).length + ((⟨#[92, 33]⟩ : ByteArray) ++ S).size ≤ 140737488355328 := by rw [Lib.byteCells_length, ByteArray.size_append]; show _ + (2 + _) ≤ _; omega
            have hB4 : w.heap.size ≤ W4.heap.size := Nat.le_trans hsz2 hb24.size
            go_wp2_with (go_at_call 14; refine (Sh.Builder_WriteString_k w.heap.size w.heap.size (Lib.byteCells acc) ((⟨#[92, 33]⟩ : ByteArray) ++ S) W4 hI4 hlen hB4).mono ?_; rintro e W5 ⟨rfl, h5, b5, k5⟩)
            go_roundw
            case rel =>
              refine ⟨pos + 1, acc ++ ([92, 33] ++ H), ?_, k5.iter hit4 (by omega), (hbw2.trans (hb24.mono hsz2)).trans b5, ?_, by simp only [List.length_append, List.length_cons, List.length_nil]; omega, hlew⟩
              · rw [Lib.byteCells_append, show Lib.byteCells ([92, 33] ++ H) = Lib.strCells ((⟨#[92, 33]⟩ : ByteArray) ++ S) from by rw [← HS.out]; simp [Lib.strCells, Lib.byteCells]]
                exact Or.inr h5
              · have := Hacc.out
                rw [Hqr.out, if_pos ⟨trivial, trivial⟩, HH.out] at this
                rw [← this]; simp
            case measure =>
              simp only [World.iterPos, k5.iter hit4 (by omega), hit]
              omega
          · have cW2 := cW
            rw [decide_eq_false (fun h => h2 h.2)] at cW2
            clear cW
            have H2 := Lib.hid h2
            clear h2
            go_wp2_with (go_at_call 18; refine cW2.mono ?_; rintro e W3 ⟨rfl, hb3⟩)
            have cH := byHex_any 65533 W3 (by omega) (hT2.below hb3)
            have hl := hexL_len 5 65533 (by omega)
            obtain ⟨H, hH⟩ : ∃ H, hexL 65533 = H := ⟨_, rfl⟩
            rw [hH] at cH hl
            have HH := Lib.hid hH
            clear hH
            obtain ⟨S, hS⟩ : ∃ S : ByteArray, (⟨H.toArray⟩ : ByteArray) = S := ⟨_, rfl⟩
            rw [hS] at cH
            have hSs : S.size ≤ 6 := by rw [← hS]; simpa [ByteArray.size] using hl
            have HS := Lib.hid hS
            clear hS
            go_wp2_with (go_at_call 19; refine cH.mono ?_; rintro e W4 ⟨rfl, hb4⟩)
            have hb24 : Below W2.heap.size W2 W4 := hb3.trans (hb4.mono hb3.size)
            have hI4 := builder_below hI2 hb24
            have hit4 := iter_stays hit2 hb24
            have hB4 : w.heap.size ≤ W4.heap.size := Nat.le_trans hsz2 hb24.size
            obtain ⟨S2, hS2⟩ : ∃ S2 : ByteArray, ((⟨#[92, 123]⟩ : ByteArray) ++ S ++ ⟨#[125]⟩) = S2 := ⟨_, rfl⟩
            have hlen : (Lib.byteCells acc).length + S2.size ≤ 140737488355328 := by rw [Lib.byteCells_length, ← hS2, ByteArray.size_append, ByteArray.size_append]; show _ + (2 + _ + 1) ≤ _; omega
            go_wp2_with fail
            rw [hS2]
            have HS2 := Lib.hid hS2
            clear hS2
            refine (Sh.Builder_WriteString_k w.heap.size w.heap.size (Lib.byteCells acc) S2 W4 hI4 hlen hB4).mono ?_
            rintro e W5 ⟨rfl, h5, b5, k5⟩
            go_wp2
            go_roundw
            case rel =>
              refine ⟨pos + K, acc ++ ([92, 123] ++ H ++ [125]), ?_, k5.iter hit4 (by omega), (hbw2.trans (hb24.mono hsz2)).trans b5, ?_, by simp only [List.length_append, List.length_cons, List.length_nil]; omega, hlew⟩
              · rw [Lib.byteCells_append, show Lib.byteCells ([92, 123] ++ H ++ [125]) = Lib.strCells S2 from by rw [← HS2.out, ← HS.out]; simp [Lib.strCells, Lib.byteCells]]
                exact Or.inr h5
              · have := Hacc.out
                rw [Hqr.out, if_neg (fun h => H2.out h.2), if_neg (by omega), if_neg (by omega), HH.out] at this
                rw [← this]; simp
            case measure =>
              simp only [World.iterPos, k5.iter hit4 (by omega), hit]
              omega
        · have t1 : ((R : Int) == 65533) = false := by simp; omega
          have H1 := Lib.hid h1
          clear h1
          by_cases h2 : R = 92
          · subst h2
            have hlen : (Lib.byteCells acc).length + (⟨#[92, 92]⟩ : ByteArray).size ≤ 140737488355328 := by rw [Lib.byteCells_length]; show _ + 2 ≤ _; omega
            go_wp2_with (go_at_call 14; refine (Sh.Builder_WriteString_k w.heap.size w.heap.size (Lib.byteCells acc) ⟨#[92, 92]⟩ W2 hI2 hlen hsz2).mono ?_; rintro e W5 ⟨rfl, h5, b5, k5⟩)
            go_roundw
            case rel =>
              refine ⟨pos + K, acc ++ [92, 92], ?_, k5.iter hit2 (by omega), hbw2.trans b5, ?_, by simp only [List.length_append, List.length_cons, List.length_nil]; omega, hlew⟩
              · rw [Lib.byteCells_append]
                exact Or.inr h5
              · have := Hacc.out
                rw [Hqr.out, if_neg (fun h => H1.out h.1), if_pos trivial] at this
                rw [← this]; simp
            case measure =>
              simp only [World.iterPos, k5.iter hit2 (by omega), hit]
              omega
          · have t2 : ((R : Int) == 92) = false := by simp; omega
            have H2 := Lib.hid h2
            clear h2
            by_cases h3 : 32 < R ∧ R < 127
            · have t3 : (32 : Int) < (R : Int) := by omega
              have t4 : (R : Int) < 127 := by omega
              have H3 := Lib.hid h3
              have hl4 := Lib.runeCells_le (R : Int)
              rw [Lib.runeCells_length] at hl4
              have hlen : (Lib.byteCells acc).length + 4 ≤ 140737488355328 := by rw [Lib.byteCells_length]; omega
              clear h3
              go_wp2_with (go_at_call 20; refine (Sh.Builder_WriteRune_k w.heap.size w.heap.size (Lib.byteCells acc) (R : Int) (by omega) (by omega) W2 hI2 hlen hsz2).mono ?_; rintro e W5 ⟨rfl, h5, b5, k5⟩)
              go_roundw
              case rel =>
                refine ⟨pos + K, acc ++ Lib.encodeRune R, ?_, k5.iter hit2 (by omega), hbw2.trans b5, ?_, by simp only [List.length_append]; omega, hlew⟩
                · rw [Lib.byteCells_append, Lib.byteCells_encodeRune]
                  exact Or.inr h5
                · have := Hacc.out
                  rw [Hqr.out, if_neg (fun h => H1.out h.1), if_neg H2.out, if_pos H3.out] at this
                  rw [← this]; simp
              case measure =>
                simp only [World.iterPos, k5.iter hit2 (by omega), hit]
                omega
            · have hc : ¬ (32 : Int) < (R : Int) ∨ ((32 : Int) < (R : Int) ∧ ¬ (R : Int) < 127) := by omega
              have H3 := Lib.hid h3
              clear h3
              rcases hc with t3 | ⟨t3, t4⟩
              · have cH := byHex_any R W2 (by omega) hT2
                have hl := hexL_len 5 R (by omega)
                obtain ⟨H, hH⟩ : ∃ H, hexL R = H := ⟨_, rfl⟩
                rw [hH] at cH hl
                have HH := Lib.hid hH
                clear hH
                obtain ⟨S, hS⟩ : ∃ S : ByteArray, (⟨H.toArray⟩ : ByteArray) = S := ⟨_, rfl⟩
                rw [hS] at cH
                have hSs : S.size ≤ 6 := by rw [← hS]; simpa [ByteArray.size] using hl
                have HS := Lib.hid hS
                clear hS
                go_wp2_with (go_at_call 19; refine cH.mono ?_; rintro e W4 ⟨rfl, hb4⟩)
                have hb24 : Below W2.heap.size W2 W4 := hb4
                have hI4 := builder_below hI2 hb24
                have hit4 := iter_stays hit2 hb24
                have hB4 : w.heap.size ≤ W4.heap.size := Nat.le_trans hsz2 hb24.size
                obtain ⟨S2, hS2⟩ : ∃ S2 : ByteArray, ((⟨#[92, 123]⟩ : ByteArray) ++ S ++ ⟨#[125]⟩) = S2 := ⟨_, rfl⟩
                have hlen : (Lib.byteCells acc).length + S2.size ≤ 140737488355328 := by rw [Lib.byteCells_length, ← hS2, ByteArray.size_append, ByteArray.size_append]; show _ + (2 + _ + 1) ≤ _; omega
                go_wp2_with fail
                rw [hS2]
                have HS2 := Lib.hid hS2
                clear hS2
                refine (Sh.Builder_WriteString_k w.heap.size w.heap.size (Lib.byteCells acc) S2 W4 hI4 hlen hB4).mono ?_
                rintro e W5 ⟨rfl, h5, b5, k5⟩
                go_wp2
                go_roundw
                case rel =>
                  refine ⟨pos + K, acc ++ ([92, 123] ++ H ++ [125]), ?_, k5.iter hit4 (by omega), (hbw2.trans (hb24.mono hsz2)).trans b5, ?_, by simp only [List.length_append, List.length_cons, List.length_nil]; omega, hlew⟩
                  · rw [Lib.byteCells_append, show Lib.byteCells ([92, 123] ++ H ++ [125]) = Lib.strCells S2 from by rw [← HS2.out, ← HS.out]; simp [Lib.strCells, Lib.byteCells]]
                    exact Or.inr h5
                  · have := Hacc.out
                    rw [Hqr.out, if_neg (fun h => H1.out h.1), if_neg H2.out, if_neg H3.out, HH.out] at this
                    rw [← this]; simp
                case measure =>
                  simp only [World.iterPos, k5.iter hit4 (by omega), hit]
                  omega
              · have cH := byHex_any R W2 (by omega) hT2
                have hl := hexL_len 5 R (by omega)
                obtain ⟨H, hH⟩ : ∃ H, hexL R = H := ⟨_, rfl⟩
                rw [hH] at cH hl
                have HH := Lib.hid hH
                clear hH
                obtain ⟨S, hS⟩ : ∃ S : ByteArray, (⟨H.toArray⟩ : ByteArray) = S := ⟨_, rfl⟩
                rw [hS] at cH
                have hSs : S.size ≤ 6 := by rw [← hS]; simpa [ByteArray.size] using hl
                have HS := Lib.hid hS
                clear hS
                go_wp2_with (go_at_call 19; refine cH.mono ?_; rintro e W4 ⟨rfl, hb4⟩)
                have hb24 : Below W2.heap.size W2 W4 := hb4
                have hI4 := builder_below hI2 hb24
                have hit4 := iter_stays hit2 hb24
                have hB4 : w.heap.size ≤ W4.heap.size := Nat.le_trans hsz2 hb24.size
                obtain ⟨S2, hS2⟩ : ∃ S2 : ByteArray, ((⟨#[92, 123]⟩ : ByteArray) ++ S ++ ⟨#[125]⟩) = S2 := ⟨_, rfl⟩
                have hlen : (Lib.byteCells acc).length + S2.size ≤ 140737488355328 := by rw [Lib.byteCells_length, ← hS2, ByteArray.size_append, ByteArray.size_append]; show _ + (2 + _ + 1) ≤ _; omega
                go_wp2_with fail
                rw [hS2]
                have HS2 := Lib.hid hS2
                clear hS2
                refine (Sh.Builder_WriteString_k w.heap.size w.heap.size (Lib.byteCells acc) S2 W4 hI4 hlen hB4).mono ?_
                rintro e W5 ⟨rfl, h5, b5, k5⟩
                go_wp2
                go_roundw
                case rel =>
                  refine ⟨pos + K, acc ++ ([92, 123] ++ H ++ [125]), ?_, k5.iter hit4 (by omega), (hbw2.trans (hb24.mono hsz2)).trans b5, ?_, by simp only [List.length_append, List.length_cons, List.length_nil]; omega, hlew⟩
                  · rw [Lib.byteCells_append, show Lib.byteCells ([92, 123] ++ H ++ [125]) = Lib.strCells S2 from by rw [← HS2.out, ← HS.out]; simp [Lib.strCells, Lib.byteCells]]
                    exact Or.inr h5
                  · have := Hacc.out
                    rw [Hqr.out, if_neg (fun h => H1.out h.1), if_neg H2.out, if_neg H3.out, HH.out] at this
                    rw [← this]; simp
                case measure =>
                  simp only [World.iterPos, k5.iter hit4 (by omega), hit]
                  omega
      · have hnx : ∀ ty, (Instr.next (.pointer (some ⟨w.heap.size + 1, 0, none⟩)) true ty).run Tryd.prog wr = _ := fun ty => Lib.run_next_end_at wr (w.heap.size + 1) s pos ty hit hp
        go_wp2_with (go_at_call 16; refine (Sh.Builder_String_any_k w.heap.size w.heap.size acc _ hI (by omega)).mono ?_)
        rintro e W1 ⟨rfl, _, b1, _⟩
        go_wp2
        go_ret
        have := Hacc.out
        rw [quoteR_end s pos hp, List.append_nil] at this
        subst this
        exact ⟨rfl, hbw.trans b1⟩
def label_Quote.f (a0 : ByteArray) : Option ByteArray := if a0.size ≤ 8796093022208 then some ⟨(quoteL a0.data.toList).toArray⟩ else none
theorem label_Quote.calls (a0 : ByteArray) (r : ByteArray) (w : World) (h : label_Quote.f a0 = some r) (HT : Tabs w) :
    Calls Tryd.prog 8 #[.string a0] w fun e w' => e = .returned (.string r) ∧ Below w.heap.size w w' := by
  unfold label_Quote.f at h
  by_cases hs : a0.size ≤ 8796093022208
  · rw [if_pos hs] at h
    injection h with h
    subst h
    exact quote_any a0 w hs HT
  · rw [if_neg hs] at h
    exact absurd h (by simp)
end Go.Proofs.YtcgpaopbcclbiaaDoor.Lf
