import Derived.Test.YtcgejogmiglalaaDoorClHeadNot0
import Derived.Test.YtcgejogmiglalaaDoorProg
import Derived.Lib.ConvBytes
import Derived.KernelRfl





namespace Go.Proofs.YtcgejogmiglalaaDoor.Lf.Kd
open Go Go.RowKit Go.Lib Go.Proofs.YtcgejogmiglalaaDoorW.PrintWords
def B (_d : Kd Int) (e : Nat) (w : World) (base : Nat) (ok : Nat → Prop) (v : Value) (xs : List Int) : Prop :=
  (∀ k, v.ownBlock = some k → ok k) ∧ ∃ g cap cur lo, v = .slice (some ⟨g, 0, none⟩) xs.length cap ∧ base ≤ g ∧ w.heap[g]? = some (.cells cur e (lo, lo + 1)) ∧ xs.length ≤ cap ∧ cur.size ≤ lo ∧ xs.length ≤ 9223372036854775807 ∧ cur.toList.take xs.length = nums .u8 xs
variable {d : Kd Int} {e : Nat} {w w1 W : World} {base base' : Nat} {ok ok' : Nat → Prop} {v : Value} {xs : List Int} {g n cap : Nat}
theorem B_own (h : B d e w base ok v xs) : ∃ g, v.ownBlock = some g ∧ base ≤ g ∧ g < w.heap.size := by
  obtain ⟨_, g, cap, cur, lo, rfl, hb, hh, _⟩ := h
  exact ⟨g, rfl, hb, (Array.getElem?_eq_some_iff.1 hh).1⟩
theorem B_mono (h : B d e w base ok v xs) (hok : ∀ k, ok k → ok' k) : B d e w base ok' v xs := ⟨fun k hk => hok k (h.1 k hk), h.2⟩
theorem B_lower (h : B d e w base ok v xs) (hb : base' ≤ base) : B d e w base' ok v xs := by
  obtain ⟨h0, g, cap, cur, lo, h1, h2, h3⟩ := h
  exact ⟨h0, g, cap, cur, lo, h1, Nat.le_trans hb h2, h3⟩
theorem B_move (h : B d e w base ok v xs) (hm : ∀ k, v.ownBlock = some k → k < w.heap.size → w1.heap[k]? = w.heap[k]?) : B d e w1 base ok v xs := by
  obtain ⟨h0, g, cap, cur, lo, rfl, h2, h3, h4⟩ := h
  exact ⟨h0, g, cap, cur, lo, rfl, h2, (hm g rfl (Array.getElem?_eq_some_iff.1 h3).1).trans h3, h4⟩
theorem B_below (h : B d e w base ok v xs) (hb : Below w.heap.size w w1) : B d e w1 base ok v xs := B_move h (fun k _ hk => hb.block k hk)
theorem B_bound (h : B d e w base ok v xs) : B d e w base (fun k => ok k ∧ base ≤ k ∧ k < w.heap.size) v xs := by
  obtain ⟨g, hg, h1, h2⟩ := B_own h
  exact ⟨fun k hk => ⟨h.1 k hk, by rw [hg] at hk; cases hk; exact h1, by rw [hg] at hk; cases hk; exact h2⟩, h.2⟩
theorem B_ne (h : B d e w base ok v xs) {g t : Nat} {cells : Array Value} (hb : w.heap[g]? = some (.cells cells t (0, 0))) (_ht : e ≠ t) : some g ≠ v.ownBlock := by
  obtain ⟨_, g', cap, cur, lo, rfl, _, hh, _⟩ := h
  intro he
  have : g = g' := by simpa [Value.ownBlock] using he
  subst this
  rw [hb] at hh
  injection hh with hh
  injection hh with _ _ hh
  injection hh with h1 h2
  omega
theorem B_base (h : B d e w base ok v xs) : ∀ k, v.ownBlock = some k → base ≤ k := fun k hk => by
  obtain ⟨g, hg, h2, _⟩ := B_own h
  rw [hg] at hk; cases hk; exact h2
theorem B_slice (h : B d e w base ok v xs) : ∃ A c, v = .slice A xs.length c := by
  obtain ⟨_, g, cap, cur, lo, rfl, _⟩ := h
  exact ⟨_, _, rfl⟩
theorem B_form (h : B d e w base ok v xs) (_hp : 0 < xs.length) : ∃ g cap, v = .slice (some ⟨g, 0, none⟩) xs.length cap ∧ base ≤ g ∧ g < w.heap.size ∧ ∃ cells lo, w.heap[g]? = some (.cells cells e (lo, lo + 1)) := by
  obtain ⟨_, g, cap, cur, lo, rfl, h2, h3, _⟩ := h
  exact ⟨g, cap, rfl, h2, (Array.getElem?_eq_some_iff.1 h3).1, cur, lo, h3⟩
theorem B_at (h : B d e w base ok (.slice (some ⟨g, 0, none⟩) n cap) xs) : n = xs.length ∧ n ≤ cap ∧ ∃ cur lo, w.heap[g]? = some (.cells cur e (lo, lo + 1)) ∧ cur.size ≤ lo ∧ cur.toList.take xs.length = nums .u8 xs := by
  obtain ⟨_, g', cap', cur, lo, he, _, hh, hc, hl, _, ht⟩ := h
  injection he with h1 h2 h3
  injection h1 with h1
  injection h1 with h1
  subst h1
  exact ⟨h2, by omega, cur, lo, hh, hl, ht⟩
theorem B_val {cur : Array Value} (ht : cur.toList.take xs.length = nums .u8 xs) (i : Nat) (hi : i < xs.length) : cur[i]? = some (.int .u8 (rdOf 0 xs (i : Int))) := by
  have h := congrArg (fun l => l[i]?) ht
  simp only [List.getElem?_take_of_lt hi, nums, List.getElem?_map] at h
  rw [← Array.getElem?_toList, h, List.getElem?_eq_getElem hi]
  unfold rdOf
  rw [Int.toNat_natCast, List.getD_eq_getElem?_getD, List.getElem?_eq_getElem hi]
  rfl
theorem B_celln (d0 : Int) (h : B d e W base ok (.slice (some ⟨g, 0, none⟩) n cap) xs) (i : Int) (h0 : 0 ≤ i) (hi : i < n) : W.cell? ⟨g, i.toNat, none⟩ = some (.int .u8 (rdOf d0 xs i)) ∧ W.frozen? ⟨g, i.toNat, none⟩ = false := by
  obtain ⟨rfl, _, cur, lo, hh, hl, ht⟩ := B_at h
  obtain ⟨j, rfl⟩ : ∃ j : Nat, i = (j : Int) := ⟨i.toNat, by omega⟩
  have hj : j < xs.length := by omega
  have hv := B_val ht j hj
  have hlt : j < cur.size := (Array.getElem?_eq_some_iff.1 hv).1
  have e1 : rdOf d0 xs (j : Int) = rdOf 0 xs (j : Int) := by
    unfold rdOf
    rw [Int.toNat_natCast, List.getD_eq_getElem?_getD, List.getD_eq_getElem?_getD, List.getElem?_eq_getElem hj]
    rfl
  rw [Int.toNat_natCast, e1]
  constructor
  · simp [World.cell?, hh, hv]
  · simp [World.frozen?, hh]
    omega
theorem B_putn (h : B d e W base ok (.slice (some ⟨g, 0, none⟩) n cap) xs) (i : Int) (x : Int) : B d e (W.setCell ⟨g, i.toNat, none⟩ (.int .u8 x)) base ok (.slice (some ⟨g, 0, none⟩) n cap) (xs.set i.toNat x) := by
  obtain ⟨rfl, hc, cur, lo, hh, hl, ht⟩ := B_at h
  obtain ⟨h0, g', cap', cur', lo', he, hb, hh', _, _, hm, _⟩ := h
  injection he with h1 h2 h3
  injection h1 with h1
  injection h1 with h1
  subst h1
  refine ⟨h0, g, cap, cur.setIfInBounds i.toNat (.int .u8 x), lo, by rw [List.length_set], hb, ?_, by rw [List.length_set]; exact hc, by simpa using hl, by rw [List.length_set]; exact hm, ?_⟩
  · simp [World.setCell, Array.getElem?_modify, hh]
  · rw [List.length_set, Array.toList_setIfInBounds, List.take_set, ht]
    unfold nums
    rw [List.map_set]
theorem B_putg (h : B d e W base ok (.slice (some ⟨g, 0, none⟩) n cap) xs) (i : Int) (x : Int) : B d e (W.setCell ⟨g, i.toNat, none⟩ (.int .u8 x)) base ok (.slice (some ⟨g, 0, none⟩) n cap) (xs.set i.toNat x) ∧ W.grownBy (W.setCell ⟨g, i.toNat, none⟩ (.int .u8 x)) (some g) :=
  ⟨B_putn h i x, by
    refine ⟨rfl, rfl, rfl, by simp, fun k hk hne => ?_⟩
    exact Below.heap_setCell W _ _ k (fun e => hne (by rw [e]))⟩
theorem B_reads' {A : Option Addr} {n c : Nat} (h : B d e w base ok (.slice A n c) xs) : n = xs.length ∧ n ≤ c ∧ (Kd.int .u8).C w A xs.length xs := by
  obtain ⟨h0, g', cap', cur, lo, he, hb, hh, hc, hl, hm, ht⟩ := h
  injection he with h1 h2 h3
  subst h1
  refine ⟨h2, by omega, rfl, hm, fun _ => ⟨_, rfl, fun j p hj => ?_⟩⟩
  obtain ⟨hlt, hp⟩ := List.getElem?_eq_some_iff.1 hj
  have hv := B_val ht j hlt
  have er : rdOf 0 xs (j : Int) = p := by
    unfold rdOf
    rw [Int.toNat_natCast, List.getD_eq_getElem?_getD, List.getElem?_eq_getElem hlt, hp]
    rfl
  rw [er] at hv
  refine ⟨[.int .u8 p], rfl, rfl, fun i u hu => ?_⟩
  have hi : i = 0 := by
    rcases i with _ | i
    · rfl
    · simp at hu
  subst hi
  cases hu
  have ea : (⟨g', 0, none⟩ : Addr).add (j * 1 + 0) = ⟨g', j, none⟩ := by unfold Addr.add; split <;> simp_all
  show w.cell? ((⟨g', 0, none⟩ : Addr).add (j * 1 + 0)) = _
  rw [ea]
  simp [World.cell?, hh, hv]
theorem B_string {P : Program} {src dst e' : TypeId} (hs : P.underlying src = some (.slice e')) (he : P.underlying e' = some (.int .u8)) (hd : P.underlying dst = some .string) (h : B d e w base ok v xs) : (convert src dst v).run P w = .ok (.string (strOfNums xs)) w := by
  obtain ⟨A, c, rfl⟩ := B_slice h
  exact Go.Proofs.YtcgejogmiglalaaDoorW.PrintWords.Kd.C_string hs he hd (B_reads' h).2.2
theorem bytes_below (w : World) (e : TypeId) (s : ByteArray) : Below w.heap.size w (bytesWorld w e s) :=
  ⟨rfl, rfl, rfl, by rw [bytesWorld_size]; omega, fun k hk => bytesWorld_at_old w e s k hk⟩
theorem B_conv {P : Program} {ops : Array Oper} {rest : List Oper} {o : Oper} {a : Act} {Q : Exit → Act → World → Prop} (d : Kd Int) {w0 W : World} (base e : Nat) (hgd : o.guard = none) {N : Tmp} (_hd : o.dst = some N) (src t : TypeId) (x : Operand) (ho : o.op = .convert src t x)
    (s : ByteArray) (hx : a.eval x = .string s) (hs : P.underlying src = some .string) (ht : P.underlying t = some (.slice e)) (he : P.underlying e = some (.int .u8)) {ok : Nat → Prop} (hfresh : ok W.heap.size) (hm : s.size ≤ 9223372036854775807) (HB : Below base w0 W) (hbase : base ≤ W.heap.size)
    (h : ∀ v1 w1, B d e w1 base ok v1 (bytesOf s) → Below base w0 w1 → W.grownBy w1 none → (∃ b, v1.ownBlock = some b ∧ W.heap.size ≤ b) → wpList P ops Q rest (a.put o.dst v1) w1) : wpList P ops Q (o :: rest) a W := by
  have hr := Go.Lib.run_convert_string_bytes (P := P) W src t e s hs ht he
  have hl : (bytesOf s).length = s.size := by unfold bytesOf; rw [List.length_map]; exact Array.length_toList
  refine Go.Proofs.YtcgejogmiglalaaDoorW.PrintWords.Kd.event_run hgd (v := .slice (some ⟨W.heap.size, 0, none⟩) s.size (grownCap W s.size 0 e)) (w1 := bytesWorld W e s) (by simp [execOp, ho, hx, hr]) (h _ _ ⟨fun k hk => ?_, W.heap.size, grownCap W s.size 0 e, bytesCells W e s, (bytesCells W e s).size, by rw [hl], hbase, bytesWorld_at_new W e s, by rw [hl]; exact grownCap_ge W s.size 0 e, Nat.le_refl _, by rw [hl]; exact hm, ?_⟩ ?_ ?_ ⟨_, rfl, Nat.le_refl _⟩)
  · simp [Value.ownBlock] at hk; rw [← hk]; exact hfresh
  · rw [hl]
    unfold bytesCells nums bytesOf
    rw [Array.toList_append, List.take_append_of_le_length (by rw [Array.toList_map, List.length_map]; exact Nat.le_of_eq Array.length_toList.symm), List.take_of_length_le (by rw [Array.toList_map, List.length_map]; exact Nat.le_of_eq Array.length_toList), Array.toList_map, List.map_map]
    rfl
  · exact HB.trans ((bytes_below W e s).mono hbase)
  · refine ⟨rfl, rfl, rfl, by rw [bytesWorld_size]; omega, fun k hk _ => bytesWorld_at_old W e s k hk⟩
theorem B_new' (h : B d e w1 W.heap.size ok v xs) {u : Value} (hlt : ∀ k, u.ownBlock = some k → k < W.heap.size) : B d e w1 W.heap.size (fun k => ok k ∧ some k ≠ u.ownBlock) v xs :=
  B_mono (B_bound h) (fun k hk => ⟨hk.1, fun he => by have := hlt k he.symm; have := hk.2.1; omega⟩)
theorem B_typed (h : B d e w base ok v xs) : ∀ k, v.ownBlock = some k → ∃ cells lo, w.heap[k]? = some (.cells cells e (lo, lo + 1)) := fun k hk => by
  obtain ⟨_, g, cap, cur, lo, rfl, _, hb, _⟩ := h
  simp [Value.ownBlock] at hk
  subst hk
  exact ⟨cur, lo, hb⟩
theorem R_overB' {α : Type} {d' : Go.Proofs.YtcgejogmiglalaaDoorW.PrintWords.Kd α} {e' : Nat} {u : Value} {ys : List α} (h : d'.R e' W base ok u ys) (hty : ∀ k, v.ownBlock = some k → ∃ cells lo, W.heap[k]? = some (.cells cells e (lo, lo + 1))) (ht : ∀ q, q ∈ e' :: d'.E → q ≠ e) (hg : W.grownBy w1 v.ownBlock) : d'.R e' w1 base ok u ys := by
  refine Go.Proofs.YtcgejogmiglalaaDoorW.PrintWords.Kd.R_mono (Go.Proofs.YtcgejogmiglalaaDoorW.PrintWords.Kd.R_move (Go.Proofs.YtcgejogmiglalaaDoorW.PrintWords.Kd.R_bound h) (fun k hk => hg.block k hk.2.2.1 (fun he => ?_))) (fun _ hk => hk.1)
  obtain ⟨_, _, _, q, hq, cells, hc⟩ := hk
  obtain ⟨cells', lo, hc'⟩ := hty k he.symm
  rw [hc] at hc'
  injection hc' with hc'
  injection hc' with _ hc'
  exact ht q hq hc'
end Go.Proofs.YtcgejogmiglalaaDoor.Lf.Kd
