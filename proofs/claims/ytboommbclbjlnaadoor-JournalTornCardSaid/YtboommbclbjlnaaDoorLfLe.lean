/- The leaves of package le: Put and Get, walked: what they answer, as plain lists of bytes. -/
import Derived.Test.YtboommbclbjlnaaDoorProg
import Derived.WalkKit
import Derived.Below
import Derived.Laws.BytesArg
import Derived.Lib.ConvBytes
import Derived.Laws.BitsAllLaws
import Derived.Lib.Hide
import Derived.KernelRfl
namespace Go.Proofs.YtboommbclbjlnaaDoor.Lf
open Go.RowKit
theorem alen112 : Tryd.prog.arrayLen 112 = 8 := by kernel_rfl
theorem elem112 : Tryd.prog.elem 112 = 5 := by kernel_rfl
theorem size5 (W : World) : (sizeOf 5).run Tryd.prog W = .ok 1 W := by kernel_rfl
theorem under112 : Tryd.prog.underlying 112 = some (.array (Tryd.prog.arrayLen 112) (Tryd.prog.elem 112)) := by rw [alen112, elem112]; exact Tryd.underlying112
theorem slice112 (b : Nat) (m : Int) (h0 : 0 ≤ m) (h1 : m ≤ 8) (W : World) : (Instr.sliceAt 112 (.pointer (some ⟨b, 0, none⟩)) none (some (.int .i64 m)) none).run Tryd.prog W = .ok (.slice (some ⟨b, 0, none⟩) m.toNat 8) W := by
  rw [run_sliceAt_array_h (P := Tryd.prog) W 112 _ under112 .i64 m h0 (by rw [alen112]; omega), elem112, size5, alen112]
  simp [slicedAt, Addr.add]
def bytesOf (n : Int) (m : Nat) : List Int := (List.range m).map fun i => n / 256 ^ i % 256
def block8 (n : Int) : Obj := .cells #[.int .u8 (n % 256), .int .u8 (n / 256 % 256), .int .u8 (n / 65536 % 256), .int .u8 (n / 16777216 % 256), .int .u8 (n / 4294967296 % 256), .int .u8 (n / 1099511627776 % 256), .int .u8 (n / 281474976710656 % 256), .int .u8 (n / 72057594037927936)] 112 (0, 0)
theorem conv112 (w : World) (n : Int) (hn : 0 ≤ n) (hn2 : n < 18446744073709551616) (m : Nat) (hm : m ≤ 8) :
    (convert 61 9 (.slice (some ⟨w.heap.size, 0, none⟩) m 8)).run Tryd.prog (w.alloc (block8 n)) = .ok (.string (strOfNums (bytesOf n m))) (w.alloc (block8 n)) := by
  refine run_convert_bytes_arg _ 61 5 Tryd.underlying61 Tryd.underlying5 _ 0 m 8 (bytesOf n m) (by simp [bytesOf]) (fun i hi => ?_) 9 Tryd.underlying9
  have h8 : n / 72057594037927936 % 256 = n / 72057594037927936 := by omega
  have h : i = 0 ∨ i = 1 ∨ i = 2 ∨ i = 3 ∨ i = 4 ∨ i = 5 ∨ i = 6 ∨ i = 7 := by omega
  rcases h with rfl | rfl | rfl | rfl | rfl | rfl | rfl | rfl <;> simp [bytesOf, block8, hi, h8]
set_option maxHeartbeats 400000 in
set_option maxRecDepth 100000 in
theorem put_a (n m : Int) (hn : 0 ≤ n) (hn2 : n < 18446744073709551616) (hm : 0 < m) (hm2 : m ≤ 8) (w : World) :
    Calls Tryd.prog 47 #[.int .u64 n, .int .i64 m] w fun e w' => e = .returned (.string (strOfNums (bytesOf n (m.toNat)))) ∧ Below w.heap.size w w' := by
  have hsl := slice112 w.heap.size m (by omega) (by omega)
  have hcv := conv112 w n hn hn2 (m.toNat) (by omega)
  unfold block8 at hcv
  go_enter Tryd.func47, Tryd.ntmps47
  go_wp2
  refine wp_loop_rounds 9 ?_
  rw [rounds_succ]
  go_wp2
  rw [rounds_succ]
  go_wp2
  rw [rounds_succ]
  go_wp2
  rw [rounds_succ]
  go_wp2
  rw [rounds_succ]
  go_wp2
  rw [rounds_succ]
  go_wp2
  rw [rounds_succ]
  go_wp2
  rw [rounds_succ]
  go_wp2
  rw [rounds_succ]
  go_wp2
  go_ret
  exact ⟨rfl, (Below.refl _ _).alloc (Nat.le_refl _) _⟩
set_option maxHeartbeats 400000 in
set_option maxRecDepth 100000 in
theorem put_b (n m : Int) (hn : 0 ≤ n) (hn2 : n < 18446744073709551616) (hm : m ≤ 0) (w : World) :
    Calls Tryd.prog 47 #[.int .u64 n, .int .i64 m] w fun e w' => e = .returned (.string (strOfNums (bytesOf n (0)))) ∧ Below w.heap.size w w' := by
  have hsl := slice112 w.heap.size 0 (by omega) (by omega)
  have hcv := conv112 w n hn hn2 (0) (by omega)
  unfold block8 at hcv
  go_enter Tryd.func47, Tryd.ntmps47
  go_wp2
  refine wp_loop_rounds 9 ?_
  rw [rounds_succ]
  go_wp2
  rw [rounds_succ]
  go_wp2
  rw [rounds_succ]
  go_wp2
  rw [rounds_succ]
  go_wp2
  rw [rounds_succ]
  go_wp2
  rw [rounds_succ]
  go_wp2
  rw [rounds_succ]
  go_wp2
  rw [rounds_succ]
  go_wp2
  rw [rounds_succ]
  go_wp2
  go_ret
  exact ⟨rfl, (Below.refl _ _).alloc (Nat.le_refl _) _⟩
set_option maxHeartbeats 400000 in
set_option maxRecDepth 100000 in
theorem put_c (n m : Int) (hn : 0 ≤ n) (hn2 : n < 18446744073709551616) (hm : 8 < m) (w : World) :
    Calls Tryd.prog 47 #[.int .u64 n, .int .i64 m] w fun e w' => e = .returned (.string (strOfNums (bytesOf n (8)))) ∧ Below w.heap.size w w' := by
  have hsl := slice112 w.heap.size 8 (by omega) (by omega)
  have hcv := conv112 w n hn hn2 (8) (by omega)
  unfold block8 at hcv
  go_enter Tryd.func47, Tryd.ntmps47
  go_wp2
  refine wp_loop_rounds 9 ?_
  rw [rounds_succ]
  go_wp2
  rw [rounds_succ]
  go_wp2
  rw [rounds_succ]
  go_wp2
  rw [rounds_succ]
  go_wp2
  rw [rounds_succ]
  go_wp2
  rw [rounds_succ]
  go_wp2
  rw [rounds_succ]
  go_wp2
  rw [rounds_succ]
  go_wp2
  rw [rounds_succ]
  go_wp2
  go_ret
  exact ⟨rfl, (Below.refl _ _).alloc (Nat.le_refl _) _⟩
def getN : List UInt8 → Nat
  | [] => 0
  | c :: r => c.toNat + 256 * getN r
theorem getN_lt : ∀ l : List UInt8, getN l < 256 ^ l.length
  | [] => by simp [getN]
  | c :: r => by
    have h := getN_lt r
    have hc := c.toNat_lt
    simp only [getN, List.length_cons, Nat.pow_succ]
    omega
theorem getN_snoc : ∀ (l : List UInt8) (c : UInt8), getN (l ++ [c]) = getN l + c.toNat * 256 ^ l.length
  | [], c => by simp [getN]
  | x :: r, c => by
    simp only [List.cons_append, getN, getN_snoc r c, List.length_cons, Nat.pow_succ, Nat.mul_add]
    rw [show c.toNat * (256 ^ r.length * 256) = 256 * (c.toNat * 256 ^ r.length) from by rw [← Nat.mul_assoc, Nat.mul_comm]]
    omega
theorem get_step (l : List UInt8) (c : UInt8) (hk : l.length < 8) :
    bits .or .u64 ((getN l : Nat) : Int) (IntKind.u64.wrap (IntKind.u64.wrap (c.toNat : Int) * 2 ^ (8 * l.length))) = ((getN (l ++ [c]) : Nat) : Int) := by
  have hc := c.toNat_lt
  have hl := getN_lt l
  have e : (2 : Nat) ^ (8 * l.length) = 256 ^ l.length := by rw [Nat.pow_mul]
  have hp : 256 ^ l.length ≤ 256 ^ 7 := Nat.pow_le_pow_right (by omega) (by omega)
  have hb : c.toNat * 256 ^ l.length < 18446744073709551616 := by
    have : c.toNat * 256 ^ l.length ≤ 255 * 256 ^ 7 := Nat.mul_le_mul (by omega) hp
    omega
  have e1 : IntKind.u64.wrap (c.toNat : Int) = ((c.toNat : Nat) : Int) := by simp [IntKind.wrap, IntKind.bits, IntKind.signed]; omega
  have e2 : IntKind.u64.wrap (((c.toNat : Nat) : Int) * 2 ^ (8 * l.length)) = ((c.toNat * 256 ^ l.length : Nat) : Int) := by
    have : ((c.toNat : Nat) : Int) * 2 ^ (8 * l.length) = ((c.toNat * 256 ^ l.length : Nat) : Int) := by
      rw [← e]; push_cast; rfl
    rw [this]
    generalize c.toNat * 256 ^ l.length = X at hb ⊢
    simp [IntKind.wrap, IntKind.bits, IntKind.signed]; omega
  rw [e1, e2, u64_or_nat _ _ (by omega) hb, getN_snoc, Nat.or_comm, nat_join (8 * l.length) _ _ (by rw [e]; exact Nat.mul_mod_left _ _) (by rw [e]; exact hl), Nat.add_comm]
theorem take_snoc (l : List UInt8) (k : Nat) (h : k < l.length) : l.take (k + 1) = l.take k ++ [l[k]] := by
  rw [List.take_succ_eq_append_getElem h]
theorem get_round (s : ByteArray) (k : Nat) (h : k < s.size) (h8 : s.size ≤ 8) :
    bits .or .u64 ((getN (s.data.toList.take k) : Nat) : Int) (IntKind.u64.wrap (IntKind.u64.wrap ((s.data[k]'h).toNat : Int) * 2 ^ (8 * k))) = ((getN (s.data.toList.take (k + 1)) : Nat) : Int) := by
  have hl : (s.data.toList.take k).length = k := by
    rw [List.length_take, Array.length_toList]
    have : s.data.size = s.size := rfl
    omega
  have := get_step (s.data.toList.take k) (s.data[k]'h) (by omega)
  rw [hl] at this
  rw [this, take_snoc _ _ (by simpa using h)]
  rfl
theorem ret_int {k : IntKind} {a b : Int} (h : a = b) : Ending.returned (.int k a) = .returned (.int k b) := by rw [h]
theorem conv_str (w : World) (s : ByteArray) : ∃ W1 C, (convert 9 61 (.string s)).run Tryd.prog w = .ok (.slice (some ⟨w.heap.size, 0, none⟩) s.size C) W1 ∧
    (∀ j, j < s.size → W1.cell? ⟨w.heap.size, j, none⟩ = some (.int .u8 (s.data.toList.getD j 0).toNat)) ∧ Below w.heap.size w W1 := by
  refine ⟨_, _, Lib.run_convert_string_bytes w 9 61 5 s Tryd.underlying9 Tryd.underlying61 Tryd.underlying5, fun j hj => Lib.bytesWorld_cell w 5 s j hj, ?_⟩
  exact ⟨rfl, rfl, rfl, by rw [Lib.bytesWorld_size]; omega, fun i hi => Lib.bytesWorld_at_old w 5 s i hi⟩
theorem ext_size8 (s : ByteArray) (h : 8 < s.size) : (s.extract 0 8).size = 8 := by simp [ByteArray.size_extract]; omega
theorem ext_take (s : ByteArray) : (s.extract 0 8).data.toList = s.data.toList.take 8 := by simp [ByteArray.data_extract]
set_option maxHeartbeats 400000 in
set_option maxRecDepth 100000 in
theorem get_a (s : ByteArray) (hs : s.size ≤ 8) (w : World) :
    Calls Tryd.prog 72 #[.string s] w fun e w' => e = .returned (.int .u64 (getN (s.data.toList.take 8) : Nat)) ∧ Below w.heap.size w w' := by
  obtain ⟨W1, C, hcv, hc, hb⟩ := conv_str w s
  have he : s.data.toList.take s.size = s.data.toList.take 8 := by rw [List.take_of_length_le, List.take_of_length_le] <;> (rw [Array.length_toList]; have : s.data.size = s.size := rfl; omega)
  have He := Lib.hid he
  clear he
  go_enter Tryd.func72, Tryd.ntmps72
  go_wp2
  go_loop [3, 4, 5, 13] (fun n i c j => ∃ k : Nat, k ≤ s.size ∧ j = .int .i64 k ∧ n = .int .u64 (getN (s.data.toList.take k) : Nat)) (fun _ _ _ j => s.size - (intOf j).toNat)
  case atStart => exact ⟨0, Nat.zero_le _, rfl, rfl⟩
  case round =>
    obtain ⟨k, hk, rfl, rfl⟩ := hrel
    by_cases hlt : k < s.size
    · have hck := hc k hlt
      have hr := Lib.hid (get_round s k hlt hs)
      clear hc
      go_wp2
      go_round
      case rel => exact ⟨k + 1, by omega, by go_num, by rw [hr.out]⟩
      case measure => simp [intOf]; omega
    · obtain rfl : k = s.size := by omega
      go_wp2
      go_ret
      exact ⟨ret_int (by rw [He.out]), hb⟩
set_option maxHeartbeats 400000 in
set_option maxRecDepth 100000 in
theorem get_b (s : ByteArray) (hs : 8 < s.size) (w : World) :
    Calls Tryd.prog 72 #[.string s] w fun e w' => e = .returned (.int .u64 (getN (s.data.toList.take 8) : Nat)) ∧ Below w.heap.size w w' := by
  obtain ⟨W1, C, hcv, hc, hb⟩ := conv_str w (s.extract 0 8)
  obtain ⟨t, ht⟩ : ∃ t, s.extract 0 8 = t := ⟨_, rfl⟩
  have ht8 : t.size = 8 := by rw [← ht]; exact ext_size8 s hs
  have he := ext_take s
  rw [ht] at he hcv hc
  have He := Lib.hid he
  have Ht8 := Lib.hid ht8
  have ht9 : t.size ≤ 8 := by omega
  clear he ht8
  go_enter Tryd.func72, Tryd.ntmps72
  go_wp2
  go_loop [3, 4, 5, 13] (fun n i c j => ∃ k : Nat, k ≤ t.size ∧ j = .int .i64 k ∧ n = .int .u64 (getN (t.data.toList.take k) : Nat)) (fun _ _ _ j => t.size - (intOf j).toNat)
  case atStart => exact ⟨0, Nat.zero_le _, rfl, rfl⟩
  case round =>
    obtain ⟨k, hk, rfl, rfl⟩ := hrel
    by_cases hlt : k < t.size
    · have hck := hc k hlt
      have hr := Lib.hid (get_round t k hlt (by omega))
      clear hc
      go_wp2
      go_round
      case rel => exact ⟨k + 1, by omega, by go_num, by rw [hr.out]⟩
      case measure => simp [intOf]; omega
    · obtain rfl : k = t.size := by omega
      go_wp2
      go_ret
      exact ⟨ret_int (by rw [← He.out, List.take_of_length_le (by rw [Array.length_toList]; exact Nat.le_refl _)]), hb⟩
/-- A size's number as a uint64 is itself, where a sum with it is bounded. -/
theorem wrap_sum2 {a b : Nat} (h : decide (a + b ≤ 9223372036854775807) = true) : IntKind.u64.wrap (b : Int) = (b : Int) := by
  have h := of_decide_eq_true h
  simp [IntKind.wrap, IntKind.bits, IntKind.signed]; omega
/-- le.Put: the number of bytes that are told. -/
def many8 (m : Int) : Nat := if m ≤ 0 then 0 else if m ≤ 8 then m.toNat else 8
def le_Put.f (a0 a1 : Int) : Option ByteArray := if 0 ≤ a0 ∧ a0 < 18446744073709551616 then some (strOfNums (bytesOf a0 (many8 a1))) else none
theorem le_Put.calls (a0 a1 : Int) (r : ByteArray) (w : World) (h : le_Put.f a0 a1 = some r) :
    Calls Tryd.prog 47 #[.int .u64 a0, .int .i64 a1] w fun e w' => e = .returned (.string r) ∧ Below w.heap.size w w' := by
  unfold le_Put.f at h
  by_cases hb : 0 ≤ a0 ∧ a0 < 18446744073709551616
  · rw [if_pos hb] at h
    injection h with h
    subst h
    unfold many8
    by_cases h0 : a1 ≤ 0
    · rw [if_pos h0]; exact put_b a0 a1 hb.1 hb.2 h0 w
    · rw [if_neg h0]
      by_cases h8 : a1 ≤ 8
      · rw [if_pos h8]; exact put_a a0 a1 hb.1 hb.2 (by omega) h8 w
      · rw [if_neg h8]; exact put_c a0 a1 hb.1 hb.2 (by omega) w
  · rw [if_neg hb] at h
    exact absurd h (by simp)
def le_Get.f (a0 : ByteArray) : Option Int := some (getN (a0.data.toList.take 8) : Nat)
theorem le_Get.calls (a0 : ByteArray) (r : Int) (w : World) (h : le_Get.f a0 = some r) :
    Calls Tryd.prog 72 #[.string a0] w fun e w' => e = .returned (.int .u64 r) ∧ Below w.heap.size w w' := by
  unfold le_Get.f at h
  injection h with h
  subst h
  by_cases h8 : a0.size ≤ 8
  · exact get_a a0 h8 w
  · exact get_b a0 (by omega) w
end Go.Proofs.YtboommbclbjlnaaDoor.Lf
