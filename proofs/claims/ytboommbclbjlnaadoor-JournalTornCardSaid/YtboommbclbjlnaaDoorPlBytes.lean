/- Plain: texts as lists of bytes; numbers as bytes, the lowest first; no program in sight. -/
import Derived.Laws.BytesArg
import Derived.Lib.ConvBytes
import Derived.Lib.Strings
import Derived.Laws.BitsAllLaws
namespace Go.Proofs.YtboommbclbjlnaaDoor.Pl
open Go
/-- A list of bytes as a text. -/
def ba (l : List UInt8) : ByteArray := ⟨l.toArray⟩
theorem ba_data (s : ByteArray) : ba s.data.toList = s := by cases s; simp [ba]
theorem ba_list (l : List UInt8) : (ba l).data.toList = l := by simp [ba]
theorem ba_toList (l : List UInt8) : (ba l).toList = l := by rw [ByteArray.toList_eq, ba_list]
theorem ba_size (l : List UInt8) : (ba l).size = l.length := by simp [ba, ByteArray.size]
theorem ba_append (a b : List UInt8) : ba a ++ ba b = ba (a ++ b) := by
  apply ByteArray.ext; simp [ba, ByteArray.data_append]
theorem ba_extract (l : List UInt8) (i j : Nat) : (ba l).extract i j = ba ((l.drop i).take (j - i)) := by
  apply ByteArray.ext
  simp [ba, ByteArray.data_extract]
theorem ba_take (l : List UInt8) (j : Nat) : (ba l).extract 0 j = ba (l.take j) := by rw [ba_extract]; simp
theorem ba_drop (l : List UInt8) (i : Nat) : (ba l).extract i (ba l).size = ba (l.drop i) := by
  rw [ba_extract, ba_size, List.take_of_length_le (by simp)]
theorem ba_empty : (⟨#[]⟩ : ByteArray) = ba [] := rfl
theorem ba_inj {a b : List UInt8} (h : ba a = ba b) : a = b := by have := congrArg (fun s => s.data.toList) h; simpa [ba_list] using this
theorem ex_ba (s : ByteArray) : ∃ l, s = ba l := ⟨s.data.toList, (ba_data s).symm⟩
/-- The m lowest bytes of a number. -/
def putN (n m : Nat) : List UInt8 := (List.range m).map fun i => UInt8.ofNat (n / 256 ^ i % 256)
theorem putN_length (n m : Nat) : (putN n m).length = m := by simp [putN]
theorem putN_succ (n m : Nat) : putN n (m + 1) = UInt8.ofNat (n % 256) :: putN (n / 256) m := by
  unfold putN
  rw [List.range_succ_eq_map, List.map_cons, List.map_map]
  congr 1
  · simp
  · apply List.map_congr_left
    intro i _
    simp only [Function.comp, Nat.succ_eq_add_one, Nat.pow_succ, Nat.div_div_eq_div_mul]
    rw [Nat.mul_comm 256 (256 ^ i)]
/-- The number that bytes say. -/
def getB : List UInt8 → Nat
  | [] => 0
  | c :: r => c.toNat + 256 * getB r
theorem getB_lt : ∀ l : List UInt8, getB l < 256 ^ l.length
  | [] => by simp [getB]
  | c :: r => by
    have h := getB_lt r
    have hc := c.toNat_lt
    simp only [getB, List.length_cons, Nat.pow_succ]
    omega
theorem getB_putN (n m : Nat) : getB (putN n m) = n % 256 ^ m := by
  induction m generalizing n with
  | zero => simp [putN, getB, Nat.mod_one]
  | succ m ih =>
    rw [putN_succ, getB, ih, Nat.pow_succ, Nat.mul_comm (256 ^ m) 256, Nat.mod_mul]
    have : (UInt8.ofNat (n % 256)).toNat = n % 256 := by simp
    rw [this]
theorem putN_getB (l : List UInt8) : putN (getB l) l.length = l := by
  induction l with
  | nil => rfl
  | cons c r ih =>
    rw [List.length_cons, putN_succ, getB]
    have hc := c.toNat_lt
    have h1 : (c.toNat + 256 * getB r) % 256 = c.toNat := by omega
    have h2 : (c.toNat + 256 * getB r) / 256 = getB r := by omega
    rw [h1, h2, ih]
    simp
theorem getB_snoc (l : List UInt8) (c : UInt8) : getB (l ++ [c]) = getB l + c.toNat * 256 ^ l.length := by
  induction l with
  | nil => simp [getB]
  | cons x r ih =>
    simp only [List.cons_append, getB, ih, List.length_cons, Nat.pow_succ, Nat.mul_add]
    rw [show c.toNat * (256 ^ r.length * 256) = 256 * (c.toNat * 256 ^ r.length) from by rw [← Nat.mul_assoc, Nat.mul_comm]]
    omega
theorem putN_mod (n m : Nat) : putN (n % 256 ^ m) m = putN n m := by
  have h := getB_putN n m
  have h2 := putN_getB (putN n m)
  rw [h, putN_length] at h2
  exact h2
end Go.Proofs.YtboommbclbjlnaaDoor.Pl
