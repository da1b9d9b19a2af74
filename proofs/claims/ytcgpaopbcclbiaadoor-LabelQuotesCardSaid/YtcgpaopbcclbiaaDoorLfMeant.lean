/- label.meant, walked: what stands behind a stroke, and what is behind that. -/
import Derived.Test.YtcgpaopbcclbiaaDoorLfPub16
import Derived.Test.YtcgpaopbcclbiaaDoorLfValid
import Derived.Test.YtcgpaopbcclbiaaDoorShPu
import Derived.Test.YtcgpaopbcclbiaaDoorPlBytes
import Derived.Laws.Runes
import Derived.Lib.SmallJoins
import Derived.OwnWalk
namespace Go.Proofs.YtcgpaopbcclbiaaDoor.Lf
open Go.RowKit Go.Proofs.YtcgpaopbcclbiaaDoor.Pl
def meantV (l : List UInt8) : Option (List UInt8 × List UInt8) :=
  if Lib.hasPrefix l [92] = true then some ([92], l.drop 1)
  else if Lib.hasPrefix l [33] = true ∧ 2 < l.length then (if (puL 16 255 ((l.drop 1).take 2)).2 = 0 then some ([UInt8.ofNat (puL 16 255 ((l.drop 1).take 2)).1], l.drop 3) else none)
  else if (Lib.cut l [125]).2.2 = true ∧ Lib.hasPrefix (Lib.cut l [125]).1 [123] = true ∧ (puL 16 4294967295 (Lib.trimPrefix (Lib.cut l [125]).1 [123])).2 = 0 ∧ (puL 16 4294967295 (Lib.trimPrefix (Lib.cut l [125]).1 [123])).1 ≤ 1114111 then
    some ((Utf8.encode ((puL 16 4294967295 (Lib.trimPrefix (Lib.cut l [125]).1 [123])).1 : Int)).data.toList, (Lib.cut l [125]).2.1)
  else none
def meantE (r : Option (List UInt8 × List UInt8)) (e : Ending) : Prop :=
  match r with
  | none => ∃ t u, e = .returned (.tuple #[.string t, .string u, .bool false])
  | some x => e = .returned (.tuple #[.string (ba x.1), .string (ba x.2), .bool true])
theorem ext_drop (s : ByteArray) (i : Nat) : s.extract i s.size = ba (s.data.toList.drop i) := by
  have h : s = ba s.data.toList := (ba_data s).symm
  have h2 := ba_drop s.data.toList i
  rw [← h] at h2
  exact h2
theorem ext_mid (s : ByteArray) (i j : Nat) : s.extract i j = ba ((s.data.toList.drop i).take (j - i)) := by
  have h : s = ba s.data.toList := (ba_data s).symm
  have h2 := ba_extract s.data.toList i j
  rw [← h] at h2
  exact h2
theorem prefix_len {l : List UInt8} {c : UInt8} (h : Lib.hasPrefix l [c] = true) : 1 ≤ l.length := by
  cases l with
  | nil => simp [Lib.hasPrefix] at h
  | cons a l => simp
set_option maxHeartbeats 4000000 in
set_option maxRecDepth 100000 in
theorem meant_stroke (s : ByteArray) (w : World) (h : Lib.hasPrefix s.data.toList [92] = true) :
    Calls Tryd.prog 15 #[.string s] w fun e w' => e = .returned (.tuple #[.string ⟨#[92]⟩, .string (ba (s.data.toList.drop 1)), .bool true]) ∧ Below w.heap.size w w' := by
  have hz : 1 ≤ s.size := prefix_len h
  have c := Sh.strings_HasPrefix s ⟨#[92]⟩ w
  rw [show (⟨#[92]⟩ : ByteArray).data.toList = [92] from rfl, h] at c
  rw [← ext_drop s 1]
  clear h
  go_enter Tryd.func15, Tryd.ntmps15
  go_wp2_with (go_at_call 26; refine c.mono ?_; rintro e w' ⟨rfl, rfl⟩)
  go_region
  all_goals (
    go_wp2
    go_ret3
    exact ⟨rfl, ⟨rfl, rfl, rfl, Nat.le_refl _, fun _ _ => rfl⟩⟩)
theorem one_byte_int (v : Int) (W : World) : (convert 32 9 (.slice (some ⟨W.heap.size, 0, none⟩) 1 1)).run Tryd.prog ((W.alloc (.cells #[.int .u8 (v % 256)] 5)).drew) = .ok (.string (strOfNums [v % 256])) ((W.alloc (.cells #[.int .u8 (v % 256)] 5)).drew) :=
  of_bytes ((W.alloc (.cells #[.int .u8 (v % 256)] 5)).drew) W.heap.size 1 1 [v % 256] rfl (fun j hj => by
    obtain rfl : j = 0 := by omega
    show (W.alloc (.cells #[.int .u8 (v % 256)] 5)).cell? _ = _
    simp only [World.cell?, World.alloc]
    simp)
theorem one_byte_text (v : Nat) (W : World) : (convert 32 9 (.slice (some ⟨W.heap.size, 0, none⟩) 1 1)).run Tryd.prog ((W.alloc (.cells #[.int .u8 ((v : Int) % 256)] 5)).drew) = .ok (.string (ba [UInt8.ofNat v])) ((W.alloc (.cells #[.int .u8 ((v : Int) % 256)] 5)).drew) := by
  rw [one_byte_int]
  congr 2
  unfold strOfNums ba
  congr 2
  simp only [List.map_cons, List.map_nil]
  congr 1
  apply UInt8.toNat_inj.1
  rw [UInt8.toNat_ofNat', UInt8.toNat_ofNat']
  omega
set_option maxHeartbeats 8000000 in
set_option maxRecDepth 100000 in
theorem meant_byte (s : ByteArray) (w : World) (hsz : s.size < 4294967281) (HE : Errs w) (h0 : Lib.hasPrefix s.data.toList [92] = false) (h : Lib.hasPrefix s.data.toList [33] = true) (h2 : 2 < s.size) (v x : Nat) (hv : puL 16 255 ((s.data.toList.drop 1).take 2) = (v, x)) :
    Calls Tryd.prog 15 #[.string s] w fun e w' => meantE (if x = 0 then some ([UInt8.ofNat v], s.data.toList.drop 3) else none) e ∧ Below w.heap.size w w' := by
  have c1 := Sh.strings_HasPrefix s ⟨#[92]⟩ w
  rw [show (⟨#[92]⟩ : ByteArray).data.toList = [92] from rfl, h0] at c1
  have c2 := fun w => Sh.strings_HasPrefix s ⟨#[33]⟩ w
  rw [show (⟨#[33]⟩ : ByteArray).data.toList = [33] from rfl, h] at c2
  have hp := fun w => public8 (s.extract 1 3) w (by rw [ByteArray.size_extract]; omega)
  rw [show (s.extract 1 3).data.toList = (s.data.toList.drop 1).take 2 from by rw [ext_mid, ba_list], hv] at hp
  obtain ⟨_, hes, her⟩ := HE
  have hp := hp w hes her
  have e3 := (ext_drop s 3).symm
  clear h h0
  have h3 : 3 ≤ s.size := h2
  have h2i : (2 : Int) < (s.size : Int) := by omega
  have h3i : (3 : Int) ≤ (s.size : Int) := by omega
  have hx : x = 0 ∨ x ≠ 0 := by omega
  rcases hx with rfl | hx
  · rw [if_pos rfl]
    show Calls Tryd.prog 15 #[.string s] w fun e w' => e = .returned (.tuple #[.string (ba [UInt8.ofNat v]), .string (ba (s.data.toList.drop 3)), .bool true]) ∧ Below w.heap.size w w'
    rw [e3]
    clear e3 hv
    go_enter Tryd.func15, Tryd.ntmps15
    go_wp2_with (first
      | (go_at_call_of 26 (Value.string ⟨#[92]⟩); refine c1.mono ?_; rintro e w' ⟨rfl, rfl⟩)
      | (go_at_call_of 26 (Value.string ⟨#[33]⟩); refine (c2 _).mono ?_; rintro e w' ⟨rfl, rfl⟩)
      | (go_at_call 27; refine hp.mono ?_; rintro e w' ⟨hpub, hbel⟩; obtain rfl := hpub.elim (fun h => h.2) (fun h => absurd rfl h.1); have hcv := one_byte_text v w'))
    go_region
    all_goals (
      go_wp2
      go_ret3
      exact ⟨rfl, Below.drew (hbel.alloc hbel.size _)⟩)
  · rw [if_neg hx]
    show Calls Tryd.prog 15 #[.string s] w fun e w' => (∃ t u, e = .returned (.tuple #[.string t, .string u, .bool false])) ∧ Below w.heap.size w w'
    clear e3 hv
    go_enter Tryd.func15, Tryd.ntmps15
    go_wp2_with (first
      | (go_at_call_of 26 (Value.string ⟨#[92]⟩); refine c1.mono ?_; rintro e w' ⟨rfl, rfl⟩)
      | (go_at_call_of 26 (Value.string ⟨#[33]⟩); refine (c2 _).mono ?_; rintro e w' ⟨rfl, rfl⟩)
      | (go_at_call 27; refine hp.mono ?_; rintro e w' ⟨hpub, hbel⟩; obtain ⟨u, N, rfl⟩ : ∃ (u : Int) (N : Nat), e = .returned (.tuple #[.int .u64 u, .iface 78 (.pointer (some ⟨N, 0, none⟩))]) := hpub.elim (fun h => absurd h.1 hx) (fun h => h.2); have hcv := one_byte_int u w'))
    go_region
    all_goals (
      go_wp2
      go_ret3
      exact ⟨⟨_, _, rfl⟩, Below.drew (hbel.alloc hbel.size _)⟩)
set_option maxHeartbeats 8000000 in
set_option maxRecDepth 100000 in
theorem meant_brace0 (s D C T : ByteArray) (w : World) (v x : Nat) (F O : Bool)
    (c1 : Calls Tryd.prog 26 #[.string s, .string ⟨#[92]⟩] w fun e w' => e = .returned (.bool false) ∧ w' = w)
    (c2 : ∀ w, Calls Tryd.prog 26 #[.string s, .string ⟨#[33]⟩] w fun e w' => e = .returned (.bool false) ∧ w' = w)
    (hcut : Calls Tryd.prog 13 #[.string s, .string ⟨#[125]⟩] w fun e w' => e = .returned (.tuple #[.string D, .string C, .bool F]) ∧ ∃ n, w' = w.drewN n)
    (hpre : ∀ w, Calls Tryd.prog 28 #[.string D, .string ⟨#[123]⟩] w fun e w' => e = .returned (.tuple #[.string T, .bool O]) ∧ w' = w)
    (hp : ∀ n, Calls Tryd.prog 27 #[.string T, .int .i64 16, .int .i64 32] (w.drewN n) fun e w' => pubE v x e ∧ Below (w.drewN n).heap.size (w.drewN n) w') :
    Calls Tryd.prog 15 #[.string s] w fun e w' => meantE (if F = true ∧ O = true ∧ x = 0 ∧ v ≤ 1114111 then some ((Utf8.encode (v : Int)).data.toList, C.data.toList) else none) e ∧ Below w.heap.size w w' := by
  have hb0 : ∀ n, Below w.heap.size w (w.drewN n) := fun n => ⟨rfl, rfl, rfl, Nat.le_refl _, fun _ _ => rfl⟩
  by_cases hx : x = 0
  · subst hx
    by_cases hv : v ≤ 1114111
    · have hvi : ¬ (1114111 : Int) < (v : Int) := by omega
      cases F <;> cases O
      case true.true =>
        rw [if_pos ⟨rfl, rfl, rfl, hv⟩]
        simp only [meantE, ba_data]
        go_enter Tryd.func15, Tryd.ntmps15
        go_wp2_with (first
          | (go_at_call_of 26 (Value.string ⟨#[92]⟩); refine c1.mono ?_; rintro e w' ⟨rfl, rfl⟩)
          | (go_at_call_of 26 (Value.string ⟨#[33]⟩); refine (c2 _).mono ?_; rintro e w' ⟨rfl, rfl⟩)
          | (go_at_call 13; refine hcut.mono ?_; rintro e W1 ⟨rfl, n, rfl⟩)
          | (go_at_call 28; refine (hpre _).mono ?_; rintro e W2 ⟨rfl, rfl⟩)
          | (go_at_call 27; refine (hp n).mono ?_; rintro e W3 ⟨hpub, hbel⟩; obtain rfl : e = .returned (.tuple #[.int .u64 v, .nilIface]) := hpub.elim (fun h => h.2) (fun h => absurd rfl h.1)))
        go_ret3
        exact ⟨rfl, (hb0 n).trans hbel⟩
      all_goals (
        rw [if_neg (by simp)]
        show Calls Tryd.prog 15 #[.string s] w fun e w' => (∃ t u, e = .returned (.tuple #[.string t, .string u, .bool false])) ∧ Below w.heap.size w w'
        go_enter Tryd.func15, Tryd.ntmps15
        go_wp2_with (first
          | (go_at_call_of 26 (Value.string ⟨#[92]⟩); refine c1.mono ?_; rintro e w' ⟨rfl, rfl⟩)
          | (go_at_call_of 26 (Value.string ⟨#[33]⟩); refine (c2 _).mono ?_; rintro e w' ⟨rfl, rfl⟩)
          | (go_at_call 13; refine hcut.mono ?_; rintro e W1 ⟨rfl, n, rfl⟩)
          | (go_at_call 28; refine (hpre _).mono ?_; rintro e W2 ⟨rfl, rfl⟩)
          | (go_at_call 27; refine (hp n).mono ?_; rintro e W3 ⟨hpub, hbel⟩; obtain rfl : e = .returned (.tuple #[.int .u64 v, .nilIface]) := hpub.elim (fun h => h.2) (fun h => absurd rfl h.1)))
        go_ret3
        exact ⟨⟨_, _, rfl⟩, (hb0 n).trans hbel⟩)
    · have hvi : (1114111 : Int) < (v : Int) := by omega
      rw [if_neg (by rintro ⟨_, _, _, h⟩; exact hv h)]
      show Calls Tryd.prog 15 #[.string s] w fun e w' => (∃ t u, e = .returned (.tuple #[.string t, .string u, .bool false])) ∧ Below w.heap.size w w'
      cases F <;> cases O
      all_goals (
        go_enter Tryd.func15, Tryd.ntmps15
        go_wp2_with (first
          | (go_at_call_of 26 (Value.string ⟨#[92]⟩); refine c1.mono ?_; rintro e w' ⟨rfl, rfl⟩)
          | (go_at_call_of 26 (Value.string ⟨#[33]⟩); refine (c2 _).mono ?_; rintro e w' ⟨rfl, rfl⟩)
          | (go_at_call 13; refine hcut.mono ?_; rintro e W1 ⟨rfl, n, rfl⟩)
          | (go_at_call 28; refine (hpre _).mono ?_; rintro e W2 ⟨rfl, rfl⟩)
          | (go_at_call 27; refine (hp n).mono ?_; rintro e W3 ⟨hpub, hbel⟩; obtain rfl : e = .returned (.tuple #[.int .u64 v, .nilIface]) := hpub.elim (fun h => h.2) (fun h => absurd rfl h.1)))
        go_ret3
        exact ⟨⟨_, _, rfl⟩, (hb0 n).trans hbel⟩)
  · rw [if_neg (by rintro ⟨_, _, h, _⟩; exact hx h)]
    show Calls Tryd.prog 15 #[.string s] w fun e w' => (∃ t u, e = .returned (.tuple #[.string t, .string u, .bool false])) ∧ Below w.heap.size w w'
    cases F <;> cases O
    all_goals (
      go_enter Tryd.func15, Tryd.ntmps15
      go_wp2_with (first
        | (go_at_call_of 26 (Value.string ⟨#[92]⟩); refine c1.mono ?_; rintro e w' ⟨rfl, rfl⟩)
        | (go_at_call_of 26 (Value.string ⟨#[33]⟩); refine (c2 _).mono ?_; rintro e w' ⟨rfl, rfl⟩)
        | (go_at_call 13; refine hcut.mono ?_; rintro e W1 ⟨rfl, n, rfl⟩)
        | (go_at_call 28; refine (hpre _).mono ?_; rintro e W2 ⟨rfl, rfl⟩)
        | (go_at_call 27; refine (hp n).mono ?_; rintro e W3 ⟨hpub, hbel⟩; obtain ⟨u, N, rfl⟩ : ∃ (u : Int) (N : Nat), e = .returned (.tuple #[.int .u64 u, .iface 78 (.pointer (some ⟨N, 0, none⟩))]) := hpub.elim (fun h => absurd h.1 hx) (fun h => h.2)))
      go_ret3
      exact ⟨⟨_, _, rfl⟩, (hb0 n).trans hbel⟩)
set_option maxHeartbeats 8000000 in
set_option maxRecDepth 100000 in
theorem meant_brace1 (s D C T : ByteArray) (w : World) (v x : Nat) (F O : Bool)
    (c1 : Calls Tryd.prog 26 #[.string s, .string ⟨#[92]⟩] w fun e w' => e = .returned (.bool false) ∧ w' = w)
    (c2 : ∀ w, Calls Tryd.prog 26 #[.string s, .string ⟨#[33]⟩] w fun e w' => e = .returned (.bool true) ∧ w' = w) (hle : ¬ (2 : Int) < (s.size : Int))
    (hcut : Calls Tryd.prog 13 #[.string s, .string ⟨#[125]⟩] w fun e w' => e = .returned (.tuple #[.string D, .string C, .bool F]) ∧ ∃ n, w' = w.drewN n)
    (hpre : ∀ w, Calls Tryd.prog 28 #[.string D, .string ⟨#[123]⟩] w fun e w' => e = .returned (.tuple #[.string T, .bool O]) ∧ w' = w)
    (hp : ∀ n, Calls Tryd.prog 27 #[.string T, .int .i64 16, .int .i64 32] (w.drewN n) fun e w' => pubE v x e ∧ Below (w.drewN n).heap.size (w.drewN n) w') :
    Calls Tryd.prog 15 #[.string s] w fun e w' => meantE (if F = true ∧ O = true ∧ x = 0 ∧ v ≤ 1114111 then some ((Utf8.encode (v : Int)).data.toList, C.data.toList) else none) e ∧ Below w.heap.size w w' := by
  have hb0 : ∀ n, Below w.heap.size w (w.drewN n) := fun n => ⟨rfl, rfl, rfl, Nat.le_refl _, fun _ _ => rfl⟩
  by_cases hx : x = 0
  · subst hx
    by_cases hv : v ≤ 1114111
    · have hvi : ¬ (1114111 : Int) < (v : Int) := by omega
      cases F <;> cases O
      case true.true =>
        rw [if_pos ⟨rfl, rfl, rfl, hv⟩]
        simp only [meantE, ba_data]
        go_enter Tryd.func15, Tryd.ntmps15
        go_wp2_with (first
          | (go_at_call_of 26 (Value.string ⟨#[92]⟩); refine c1.mono ?_; rintro e w' ⟨rfl, rfl⟩)
          | (go_at_call_of 26 (Value.string ⟨#[33]⟩); refine (c2 _).mono ?_; rintro e w' ⟨rfl, rfl⟩)
          | (go_at_call 13; refine hcut.mono ?_; rintro e W1 ⟨rfl, n, rfl⟩)
          | (go_at_call 28; refine (hpre _).mono ?_; rintro e W2 ⟨rfl, rfl⟩)
          | (go_at_call 27; refine (hp n).mono ?_; rintro e W3 ⟨hpub, hbel⟩; obtain rfl : e = .returned (.tuple #[.int .u64 v, .nilIface]) := hpub.elim (fun h => h.2) (fun h => absurd rfl h.1)))
        go_ret3
        exact ⟨rfl, (hb0 n).trans hbel⟩
      all_goals (
        rw [if_neg (by simp)]
        show Calls Tryd.prog 15 #[.string s] w fun e w' => (∃ t u, e = .returned (.tuple #[.string t, .string u, .bool false])) ∧ Below w.heap.size w w'
        go_enter Tryd.func15, Tryd.ntmps15
        go_wp2_with (first
          | (go_at_call_of 26 (Value.string ⟨#[92]⟩); refine c1.mono ?_; rintro e w' ⟨rfl, rfl⟩)
          | (go_at_call_of 26 (Value.string ⟨#[33]⟩); refine (c2 _).mono ?_; rintro e w' ⟨rfl, rfl⟩)
          | (go_at_call 13; refine hcut.mono ?_; rintro e W1 ⟨rfl, n, rfl⟩)
          | (go_at_call 28; refine (hpre _).mono ?_; rintro e W2 ⟨rfl, rfl⟩)
          | (go_at_call 27; refine (hp n).mono ?_; rintro e W3 ⟨hpub, hbel⟩; obtain rfl : e = .returned (.tuple #[.int .u64 v, .nilIface]) := hpub.elim (fun h => h.2) (fun h => absurd rfl h.1)))
        go_ret3
        exact ⟨⟨_, _, rfl⟩, (hb0 n).trans hbel⟩)
    · have hvi : (1114111 : Int) < (v : Int) := by omega
      rw [if_neg (by rintro ⟨_, _, _, h⟩; exact hv h)]
      show Calls Tryd.prog 15 #[.string s] w fun e w' => (∃ t u, e = .returned (.tuple #[.string t, .string u, .bool false])) ∧ Below w.heap.size w w'
      cases F <;> cases O
      all_goals (
        go_enter Tryd.func15, Tryd.ntmps15
        go_wp2_with (first
          | (go_at_call_of 26 (Value.string ⟨#[92]⟩); refine c1.mono ?_; rintro e w' ⟨rfl, rfl⟩)
          | (go_at_call_of 26 (Value.string ⟨#[33]⟩); refine (c2 _).mono ?_; rintro e w' ⟨rfl, rfl⟩)
          | (go_at_call 13; refine hcut.mono ?_; rintro e W1 ⟨rfl, n, rfl⟩)
          | (go_at_call 28; refine (hpre _).mono ?_; rintro e W2 ⟨rfl, rfl⟩)
          | (go_at_call 27; refine (hp n).mono ?_; rintro e W3 ⟨hpub, hbel⟩; obtain rfl : e = .returned (.tuple #[.int .u64 v, .nilIface]) := hpub.elim (fun h => h.2) (fun h => absurd rfl h.1)))
        go_ret3
        exact ⟨⟨_, _, rfl⟩, (hb0 n).trans hbel⟩)
  · rw [if_neg (by rintro ⟨_, _, h, _⟩; exact hx h)]
    show Calls Tryd.prog 15 #[.string s] w fun e w' => (∃ t u, e = .returned (.tuple #[.string t, .string u, .bool false])) ∧ Below w.heap.size w w'
    cases F <;> cases O
    all_goals (
      go_enter Tryd.func15, Tryd.ntmps15
      go_wp2_with (first
        | (go_at_call_of 26 (Value.string ⟨#[92]⟩); refine c1.mono ?_; rintro e w' ⟨rfl, rfl⟩)
        | (go_at_call_of 26 (Value.string ⟨#[33]⟩); refine (c2 _).mono ?_; rintro e w' ⟨rfl, rfl⟩)
        | (go_at_call 13; refine hcut.mono ?_; rintro e W1 ⟨rfl, n, rfl⟩)
        | (go_at_call 28; refine (hpre _).mono ?_; rintro e W2 ⟨rfl, rfl⟩)
        | (go_at_call 27; refine (hp n).mono ?_; rintro e W3 ⟨hpub, hbel⟩; obtain ⟨u, N, rfl⟩ : ∃ (u : Int) (N : Nat), e = .returned (.tuple #[.int .u64 u, .iface 78 (.pointer (some ⟨N, 0, none⟩))]) := hpub.elim (fun h => absurd h.1 hx) (fun h => h.2)))
      go_ret3
      exact ⟨⟨_, _, rfl⟩, (hb0 n).trans hbel⟩)
theorem Errs.drewN {w : World} (h : Errs w) (n : Nat) : Errs (w.drewN n) := h.below ⟨rfl, rfl, rfl, Nat.le_refl _, fun _ _ => rfl⟩
theorem cut_sizes (l sep : List UInt8) : (Lib.cut l sep).1.length ≤ l.length ∧ (Lib.cut l sep).2.1.length ≤ l.length := by
  unfold Lib.cut
  split
  · exact ⟨by rw [List.length_take]; omega, by rw [List.length_drop]; omega⟩
  · exact ⟨Nat.le_refl _, Nat.zero_le _⟩
theorem trim_size (l p : List UInt8) : (Lib.trimPrefix l p).length ≤ l.length := by
  unfold Lib.trimPrefix
  split
  · rw [List.length_drop]; omega
  · exact Nat.le_refl _
/-- label.meant: what stands behind a stroke. -/
theorem meant_walk (s : ByteArray) (w : World) (hsz : s.size < 4294967281) (HE : Errs w) :
    Calls Tryd.prog 15 #[.string s] w fun e w' => meantE (meantV s.data.toList) e ∧ Below w.heap.size w w' := by
  have hl : s.data.toList.length = s.size := by rw [Array.length_toList]; rfl
  unfold meantV
  by_cases h0 : Lib.hasPrefix s.data.toList [92] = true
  · rw [if_pos h0]
    exact meant_stroke s w h0
  rw [if_neg h0]
  have h0' : Lib.hasPrefix s.data.toList [92] = false := by simpa using h0
  by_cases h1 : Lib.hasPrefix s.data.toList [33] = true ∧ 2 < s.data.toList.length
  · rw [if_pos h1]
    exact meant_byte s w hsz HE h0' h1.1 (by rw [← hl]; exact h1.2) _ _ rfl
  rw [if_neg h1]
  have c1 := Sh.strings_HasPrefix s ⟨#[92]⟩ w
  rw [show (⟨#[92]⟩ : ByteArray).data.toList = [92] from rfl, h0'] at c1
  have c2 := fun w => Sh.strings_HasPrefix s ⟨#[33]⟩ w
  rw [show (⟨#[33]⟩ : ByteArray).data.toList = [33] from rfl] at c2
  obtain ⟨M, hM⟩ := HE.ml
  have hcut := Sh.strings_Cut s ⟨#[125]⟩ M w hsz hM
  rw [show (⟨#[125]⟩ : ByteArray).data.toList = [125] from rfl] at hcut
  obtain ⟨z1, z2⟩ := cut_sizes s.data.toList [125]
  have hpre := fun w => Sh.strings_CutPrefix ⟨(Lib.cut s.data.toList [125]).1.toArray⟩ ⟨#[123]⟩ w
  rw [show (⟨#[123]⟩ : ByteArray).data.toList = [123] from rfl, show (⟨(Lib.cut s.data.toList [125]).1.toArray⟩ : ByteArray).data.toList = (Lib.cut s.data.toList [125]).1 from rfl] at hpre
  have z3 := trim_size (Lib.cut s.data.toList [125]).1 [123]
  have hp : ∀ n, Calls Tryd.prog 27 #[.string ⟨(Lib.trimPrefix (Lib.cut s.data.toList [125]).1 [123]).toArray⟩, .int .i64 16, .int .i64 32] (w.drewN n) fun e w' => pubE (puL 16 4294967295 (Lib.trimPrefix (Lib.cut s.data.toList [125]).1 [123])).1 (puL 16 4294967295 (Lib.trimPrefix (Lib.cut s.data.toList [125]).1 [123])).2 e ∧ Below (w.drewN n).heap.size (w.drewN n) w' :=
    fun n => public16 _ _ (by show (Lib.trimPrefix (Lib.cut s.data.toList [125]).1 [123]).toArray.size ≤ _; rw [List.size_toArray]; omega) (HE.drewN n).es (HE.drewN n).er
  generalize hh : Lib.hasPrefix s.data.toList [33] = b at c2 h1
  cases b with
  | false => exact meant_brace0 s _ _ _ w _ _ _ _ c1 c2 hcut hpre hp
  | true => exact meant_brace1 s _ _ _ w _ _ _ _ c1 c2 (by have : ¬ 2 < s.data.toList.length := fun h => h1 ⟨rfl, h⟩; omega) hcut hpre hp
end Go.Proofs.YtcgpaopbcclbiaaDoor.Lf
