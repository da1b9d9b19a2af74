/- Plain: a quoted text, unquoted, is what it was; its signs. No program. -/
import Derived.Test.YtcgpaopbcclbiaaDoorLfUnq
import Derived.Test.YtcgpaopbcclbiaaDoorPlRunes2
import Derived.Stop.FmtQuoteTie
namespace Go.Proofs.YtcgpaopbcclbiaaDoor.Pl
open Go Go.Lib Go.Extern.FmtText Go.Proofs.YtcgpaopbcclbiaaDoor.Lf
theorem idx_at (c : UInt8) (r : List UInt8) : ∀ a : List UInt8, c ∉ a → index (a ++ c :: r) [c] = (a.length : Int)
  | [], _ => by
    show index (c :: r) [c] = 0
    unfold index
    simp [List.isPrefixOf]
  | b :: a, h => by
    have hb : b ≠ c := fun e => h (by rw [e]; exact List.mem_cons_self ..)
    have ih := idx_at c r a (fun hm => h (List.mem_cons_of_mem _ hm))
    show index (b :: (a ++ c :: r)) [c] = _
    rw [index, ih]
    have hp : ([c] : List UInt8).isPrefixOf (b :: (a ++ c :: r)) = false := by simp [List.isPrefixOf, Ne.symm hb]
    rw [hp]
    have hn : ¬ (((a.length : Int) == -1) = true) := fun e => by have := beq_iff_eq.1 e; omega
    rw [if_neg (by decide), if_neg hn]
    simp
theorem idx_no (c : UInt8) : ∀ a : List UInt8, c ∉ a → index a [c] = -1
  | [], _ => by simp [index]
  | b :: a, h => by
    have hb : b ≠ c := fun e => h (by rw [e]; exact List.mem_cons_self ..)
    have ih := idx_no c a (fun hm => h (List.mem_cons_of_mem _ hm))
    rw [index, ih]
    have hp : ([c] : List UInt8).isPrefixOf (b :: a) = false := by simp [List.isPrefixOf, Ne.symm hb]
    rw [hp]
    simp
theorem cut_at' (c : UInt8) (a r : List UInt8) (h : c ∉ a) : cut (a ++ c :: r) [c] = (a, r, true) := by
  unfold cut
  rw [idx_at c r a h, if_pos (by omega)]
  simp
theorem cut_no (c : UInt8) (a : List UInt8) (h : c ∉ a) : cut a [c] = (a, [], false) := by
  unfold cut
  rw [idx_no c a h, if_neg (by omega)]
theorem hd_fin : ∀ n : Fin 16, digV (hd n.val) = n.val ∧ (hd n.val ≠ 125 ∧ hd n.val ≠ 92) ∧ (33 ≤ (hd n.val).toNat ∧ (hd n.val).toNat ≤ 126) := by decide +kernel
theorem hd_val (n : Nat) (h : n < 16) : digV (hd n) = n := (hd_fin ⟨n, h⟩).1
theorem hd_ne (n : Nat) (h : n < 16) : hd n ≠ 125 ∧ hd n ≠ 92 := (hd_fin ⟨n, h⟩).2.1
theorem hd_sign (n : Nat) (h : n < 16) : 33 ≤ (hd n).toNat ∧ (hd n).toNat ≤ 126 := (hd_fin ⟨n, h⟩).2.2
theorem hexL_mem (n : Nat) : ∀ c ∈ hexL n, ∃ d, d < 16 ∧ c = hd d := by
  induction n using Nat.strongRecOn with
  | _ n ih =>
    intro c hc
    by_cases h : n < 16
    · rw [hexL_lt h, List.mem_singleton] at hc
      exact ⟨n, h, hc⟩
    · rw [hexL_ge h, List.mem_append, List.mem_singleton] at hc
      rcases hc with hc | hc
      · exact ih (n / 16) (by omega) c hc
      · exact ⟨n % 16, Nat.mod_lt _ (by decide), hc⟩
theorem hexL_ne (n : Nat) : (125 : UInt8) ∉ hexL n ∧ (92 : UInt8) ∉ hexL n := by
  constructor
  all_goals
    intro h
    obtain ⟨d, hd, e⟩ := hexL_mem n _ h
    have := hd_ne d hd
    rw [← e] at this
    simp at this
theorem puGo_hex (mx n : Nat) (r : List UInt8) (h : n ≤ mx) : puGo 16 mx (hexL n ++ r) 0 = puGo 16 mx r n := by
  induction n using Nat.strongRecOn generalizing r with
  | _ n ih =>
    by_cases h16 : n < 16
    · rw [hexL_lt h16]
      show puGo 16 mx (hd n :: r) 0 = _
      rw [puGo, hd_val n h16, if_neg (by omega), if_neg (by omega)]
      congr 1
      omega
    · rw [hexL_ge h16, List.append_assoc, ih (n / 16) (by omega) _ (by omega)]
      show puGo 16 mx (hd (n % 16) :: r) _ = _
      have h2 : n % 16 < 16 := Nat.mod_lt _ (by decide)
      rw [puGo, hd_val _ h2, if_neg (by omega), show n / 16 * 16 + n % 16 = n by omega, if_neg (by omega)]
theorem puL_hex (mx n : Nat) (h : n ≤ mx) : puL 16 mx (hexL n) = (n, 0) := by
  unfold puL
  have hp := hexL_pos n
  rw [if_neg (fun e => by rw [e] at hp; simp at hp)]
  have := puGo_hex mx n [] h
  rw [List.append_nil] at this
  rw [this]
  rfl
theorem hex_two (n : Nat) (h : 16 ≤ n) (h2 : n < 256) : hexL n = [hd (n / 16), hd (n % 16)] := by
  rw [hexL_ge (by omega), hexL_lt (by omega)]; rfl
theorem enc_eq (r : Nat) : (Utf8.encode (r : Int)).data.toList = encodeRune (r : Int) := by
  unfold encodeRune
  rw [← encode_eq r]
  unfold nums
  rw [List.map_map]
  have e : ((fun (x : Int) => x.toNat.toUInt8) ∘ fun (x : UInt8) => (x.toNat : Int)) = id := by
    funext x
    show ((x.toNat : Int)).toNat.toUInt8 = x
    simp
  rw [e, List.map_id]
/-- A wrong byte is no ASCII. -/
theorem bad_high (l : List UInt8) (hl : l ≠ []) (h : (decodeL l).1 = 65533 ∧ (decodeL l).2 = 1) : 128 ≤ (l.headD 0).toNat := by
  cases l with
  | nil => exact absurd rfl hl
  | cons c r =>
    rcases Nat.lt_or_ge c.toNat 128 with hlt | hge
    · have := dec_plain c r hlt
      rw [this] at h
      simp only at h
      omega
    · exact hge
/-- What stands behind the stroke of a piece that has one, is meant. -/
inductive Kind (l : List UInt8) : Prop where
  | plain (c : UInt8) (h1 : 33 ≤ c.toNat) (h2 : c.toNat ≤ 126) (h3 : c ≠ 92) (hp : piece l = [c]) (ht : l.take (decodeL l).2 = [c]) : Kind l
  | special (q : List UInt8) (hp : piece l = 92 :: q) (hm : ∀ r, meantV (q ++ r) = some (l.take (decodeL l).2, r)) : Kind l
theorem kinds (l : List UInt8) (hl : l ≠ []) : Kind l := by
  by_cases c1 : (decodeL l).1 = 65533 ∧ (decodeL l).2 = 1
  · have h128 := bad_high l hl c1
    have hp : piece l = [92, 33] ++ hexL (l.headD 0).toNat := by unfold piece; rw [if_pos c1]
    refine .special (33 :: hexL (l.headD 0).toNat) (by rw [hp]; rfl) ?_
    intro r
    rw [c1.2]
    cases l with
    | nil => exact absurd rfl hl
    | cons b t =>
      have hb := b.toNat_lt
      have h128 : 128 ≤ b.toNat := h128
      show meantV ((33 :: hexL b.toNat) ++ r) = some ([b], r)
      have hpu := puL_hex 255 b.toNat (by omega)
      rw [hex_two b.toNat (by omega) hb] at hpu ⊢
      unfold meantV
      rw [if_neg (by simp [hasPrefix, List.isPrefixOf]), if_pos (by constructor <;> simp [hasPrefix, List.isPrefixOf])]
      have e : (((33 :: [hd (b.toNat / 16), hd (b.toNat % 16)]) ++ r).drop 1).take 2 = [hd (b.toNat / 16), hd (b.toNat % 16)] := by simp
      rw [e, hpu, if_pos rfl]
      simp
  have henc := encode_decode l hl c1
  have hlt := decL_lt l
  by_cases c2 : (decodeL l).1 = 92
  · have hp : piece l = [92, 92] := by unfold piece; rw [if_neg c1, if_pos c2]
    refine .special [92] hp ?_
    intro r
    rw [← henc, c2]
    unfold meantV
    rw [if_pos (by simp [hasPrefix, List.isPrefixOf])]
    rfl
  by_cases c3 : 32 < (decodeL l).1 ∧ (decodeL l).1 < 127
  · have hp : piece l = encodeRune ((decodeL l).1 : Int) := by unfold piece; rw [if_neg c1, if_neg c2, if_pos c3]
    have he : encodeRune ((decodeL l).1 : Int) = [UInt8.ofNat (decodeL l).1] := by
      unfold encodeRune
      rw [encodeRuneZ_one (by omega) (by omega)]
      simp
    have hn : (UInt8.ofNat (decodeL l).1).toNat = (decodeL l).1 := by rw [UInt8.toNat_ofNat']; omega
    refine .plain (UInt8.ofNat (decodeL l).1) (by omega) (by omega) ?_ (by rw [hp, he]) (by rw [← henc, he])
    intro e
    have := congrArg UInt8.toNat e
    rw [hn] at this
    exact c2 this
  · have hp : piece l = [92, 123] ++ hexL (decodeL l).1 ++ [125] := by unfold piece; rw [if_neg c1, if_neg c2, if_neg c3]
    refine .special (123 :: (hexL (decodeL l).1 ++ [125])) (by rw [hp]; simp) ?_
    intro r
    rw [← henc, ← enc_eq]
    generalize (decodeL l).1 = R at hlt
    have hno : (125 : UInt8) ∉ 123 :: hexL R := by
      intro h
      rcases List.mem_cons.1 h with h | h
      · exact absurd h (by decide)
      · exact (hexL_ne R).1 h
    have hcut : cut ((123 :: (hexL R ++ [125])) ++ r) [125] = (123 :: hexL R, r, true) := by
      have := cut_at' 125 (123 :: hexL R) r hno
      rw [← this]
      congr 1
      simp
    unfold meantV
    rw [if_neg (by simp [hasPrefix, List.isPrefixOf]), if_neg (by simp [hasPrefix, List.isPrefixOf]), hcut]
    have htr : trimPrefix (123 :: hexL R) [123] = hexL R := by simp [trimPrefix, hasPrefix, List.isPrefixOf]
    simp only
    rw [htr, puL_hex 4294967295 R (by omega), if_pos (by refine ⟨?_, ?_, ?_, ?_⟩ <;> first | trivial | rfl | exact hlt | simp [hasPrefix, List.isPrefixOf])]
theorem unq_gen : ∀ (m : Nat) (l P acc : List UInt8) (n : Nat), l.length ≤ m → (92 : UInt8) ∉ P → (P ++ quoteR l).length ≤ n → unqGo n (P ++ quoteR l) acc = some (acc ++ P ++ l)
  | m, [], P, acc, n, _, hP, hn => by
    rw [quoteR_nil, List.append_nil, List.append_nil] at *
    cases n with
    | zero =>
      obtain rfl : P = [] := List.eq_nil_of_length_eq_zero (by omega)
      simp [unqGo]
    | succ n =>
      by_cases e : P = []
      · subst e; simp [unqGo]
      · have hc := cut_no 92 P hP
        rw [unqGo_end n P acc e (by rw [hc]), hc]
  | 0, c :: r, P, acc, n, h, _, _ => by simp at h
  | m + 1, c :: r, P, acc, n, h, hP, hn => by
    have hne : c :: r ≠ [] := by simp
    have hs := drop_short (c :: r) hne
    have htd := List.take_append_drop (decodeL (c :: r)).2 (c :: r)
    rw [quoteR_cons _ hne] at hn ⊢
    cases kinds (c :: r) hne with
    | plain b h1 h2 h3 hp ht =>
      rw [hp] at hn ⊢
      rw [ht] at htd
      have ih := unq_gen m ((c :: r).drop (decodeL (c :: r)).2) (P ++ [b]) acc n (by omega) (by
        intro hm
        rcases List.mem_append.1 hm with hm | hm
        · exact hP hm
        · exact h3 (List.mem_singleton.1 hm).symm) (by simpa using hn)
      rw [show P ++ ([b] ++ quoteR ((c :: r).drop (decodeL (c :: r)).2)) = (P ++ [b]) ++ quoteR ((c :: r).drop (decodeL (c :: r)).2) by simp, ih]
      congr 1
      conv => rhs; rw [← htd]
      simp
    | special q hp hm =>
      rw [hp] at hn ⊢
      have hform : P ++ (92 :: q ++ quoteR ((c :: r).drop (decodeL (c :: r)).2)) = P ++ 92 :: (q ++ quoteR ((c :: r).drop (decodeL (c :: r)).2)) := by simp
      rw [hform] at hn ⊢
      have hc := cut_at' 92 P (q ++ quoteR ((c :: r).drop (decodeL (c :: r)).2)) hP
      cases n with
      | zero => simp at hn
      | succ n =>
        rw [unqGo_on n _ acc (by simp) (by rw [hc]), hc]
        simp only
        rw [hm]
        simp only
        have ih := unq_gen m ((c :: r).drop (decodeL (c :: r)).2) [] (acc ++ P ++ (c :: r).take (decodeL (c :: r)).2) n (by omega) (by simp) (by
          simp only [List.length_append, List.length_cons, List.nil_append] at hn ⊢
          omega)
        rw [List.nil_append] at ih
        rw [ih]
        congr 1
        rw [List.append_nil, List.append_assoc, htd]
theorem unqR_quote (l : List UInt8) : unqR (quoteR l) = some l := by
  unfold unqR
  have := unq_gen l.length l [] [] _ (Nat.le_refl _) (by simp) (Nat.le_refl _)
  simpa using this
theorem quoteR_odd (l : List UInt8) : quoteR l ≠ [92, 95] := by
  intro e
  have h := unqR_quote l
  rw [e] at h
  have hc := cut_at' 92 [] [95] (by simp)
  have : unqR [92, 95] = none := by
    unfold unqR
    show unqGo 2 ([] ++ 92 :: [95]) [] = none
    rw [unqGo_on 1 _ [] (by simp) (by rw [hc]), hc]
    have hm : meantV [95] = none := by decide +kernel
    simp only [hm]
  rw [this] at h
  cases h
theorem unqV_quote (l : List UInt8) : unqV (quoteL l) = (l, 0) := by
  unfold unqV quoteL
  by_cases e : l = []
  · rw [if_pos e, if_pos rfl, e]
  · rw [if_neg e, if_neg (quoteR_odd l), unqR_quote]
    show (if l = [] then (([] : List UInt8), (2 : Int)) else if quoteL l = quoteR l then (l, 0) else ([], 2)) = (l, 0)
    rw [if_neg e, if_pos (by unfold quoteL; rw [if_neg e])]
theorem unqF_form (l : List UInt8) (R : Option (List UInt8)) : unqF l R = ([], 2) ∨ ∃ T, quoteL T = l ∧ unqF l R = (T, 0) := by
  cases R with
  | none => exact Or.inl rfl
  | some T =>
    show (if T = [] then (([] : List UInt8), (2 : Int)) else if quoteL T = l then (T, 0) else ([], 2)) = ([], 2) ∨ ∃ T', quoteL T' = l ∧ (if T = [] then (([] : List UInt8), (2 : Int)) else if quoteL T = l then (T, 0) else ([], 2)) = (T', 0)
    by_cases e : T = []
    · rw [if_pos e]; exact Or.inl rfl
    · rw [if_neg e]
      by_cases q : quoteL T = l
      · rw [if_pos q]; exact Or.inr ⟨T, q, rfl⟩
      · rw [if_neg q]; exact Or.inl rfl
theorem unqV_form (l : List UInt8) : unqV l = ([], 2) ∨ ∃ T, quoteL T = l ∧ unqV l = (T, 0) := by
  unfold unqV
  by_cases e : l = [92, 95]
  · rw [if_pos e]; exact Or.inr ⟨[], by rw [e]; rfl, rfl⟩
  · rw [if_neg e]; exact unqF_form l _
theorem quote_inj {s t : List UInt8} (h : quoteL s = quoteL t) : s = t := by
  have h1 := unqV_quote s
  rw [h, unqV_quote t] at h1
  exact (Prod.mk.inj h1).1.symm
theorem piece_signs (l : List UInt8) (_hl : l ≠ []) : ∀ c ∈ piece l, 33 ≤ c.toNat ∧ c.toNat ≤ 126 := by
  have hex : ∀ n, ∀ c ∈ hexL n, 33 ≤ c.toNat ∧ c.toNat ≤ 126 := by
    intro n c hc
    obtain ⟨d, hd, rfl⟩ := hexL_mem n c hc
    exact hd_sign d hd
  intro c hc
  unfold piece at hc
  split at hc
  · rcases List.mem_append.1 hc with h | h
    · have : c = 92 ∨ c = 33 := by simpa using h
      rcases this with rfl | rfl <;> decide
    · exact hex _ c h
  · split at hc
    · have : c = 92 := by simpa using hc
      rw [this]
      decide
    · split at hc
      · rename_i h3
        unfold encodeRune at hc
        rw [encodeRuneZ_one (by omega) (by omega)] at hc
        simp only [List.map_cons, List.map_nil, List.mem_singleton] at hc
        rw [hc]
        simp
        omega
      · rcases List.mem_append.1 hc with h | h
        · rcases List.mem_append.1 h with h | h
          · have : c = 92 ∨ c = 123 := by simpa using h
            rcases this with rfl | rfl <;> decide
          · exact hex _ c h
        · have : c = 125 := by simpa using h
          rw [this]
          decide
theorem quoteR_signs (l : List UInt8) : ∀ c ∈ quoteR l, 33 ≤ c.toNat ∧ c.toNat ≤ 126 := by
  induction hn : l.length using Nat.strongRecOn generalizing l with
  | _ n ih =>
    by_cases e : l = []
    · subst e; intro c hc; rw [quoteR_nil] at hc; cases hc
    · rw [quoteR_cons l e]
      intro c hc
      rcases List.mem_append.1 hc with h | h
      · exact piece_signs l e c h
      · exact ih _ (by rw [← hn]; exact drop_short l e) _ rfl c h
theorem quoteL_signs (l : List UInt8) : ∀ c ∈ quoteL l, 33 ≤ c.toNat ∧ c.toNat ≤ 126 := by
  unfold quoteL
  by_cases e : l = []
  · rw [if_pos e]; simp
  · rw [if_neg e]; exact quoteR_signs l
theorem quoteR_len (l : List UInt8) : (quoteR l).length ≤ 12 * l.length := by
  induction hn : l.length using Nat.strongRecOn generalizing l with
  | _ n ih =>
    by_cases e : l = []
    · subst e; rw [quoteR_nil]; simp
    · rw [quoteR_cons l e, List.length_append]
      have h1 := piece_len l
      have hs := drop_short l e
      have h2 := ih _ (by rw [← hn]; exact hs) (l.drop (decodeL l).2) rfl
      omega
theorem quoteL_ne (l : List UInt8) : quoteL l ≠ [] := by
  unfold quoteL
  by_cases e : l = []
  · rw [if_pos e]; simp
  · rw [if_neg e, quoteR_cons l e]
    intro h
    rcases kinds l e with ⟨c, h1, h2, h3, hp, ht⟩ | ⟨q, hp, hm⟩
    · rw [hp] at h; simp at h
    · rw [hp] at h; simp at h
end Go.Proofs.YtcgpaopbcclbiaaDoor.Pl
