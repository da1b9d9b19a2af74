/- internal/strconv.ParseUint, walked: at base 10 and at base 16, of any text. -/
import Derived.Test.YtcgpaopbcclbiaaDoorLfConv
import Derived.WalkKit
import Derived.Laws.BitsAllLaws
import Derived.Lib.Hide
namespace Go.Proofs.YtcgpaopbcclbiaaDoor.Lf
open Go.RowKit
/-- A digit's value; 255: it is none. -/
def digV (c : UInt8) : Nat := if 48 ≤ c.toNat ∧ c.toNat ≤ 57 then c.toNat - 48 else if 97 ≤ c.toNat ∧ c.toNat ≤ 122 then c.toNat - 87 else if 65 ≤ c.toNat ∧ c.toNat ≤ 90 then c.toNat - 55 else 255
/-- What digits tell, from a number on: the number, and what is wrong (0: nothing, 1: too large, 2: no digit). -/
def puGo (base mx : Nat) : List UInt8 → Nat → Nat × Nat
  | [], n => (n, 0)
  | c :: r, n => if base ≤ digV c then (0, 2) else if mx < n * base + digV c then (mx, 1) else puGo base mx r (n * base + digV c)
def puL (base mx : Nat) (l : List UInt8) : Nat × Nat := if l = [] then (0, 2) else puGo base mx l 0
def errV (e : Nat) : Value := if e = 0 then .nilIface else .iface 76 (.int .i64 e)
theorem lower_bits : ∀ c : Fin 256, bits .or .u8 (c.val : Int) 32 = (((c.val ||| 32 : Nat)) : Int) := by decide +kernel
theorem lower_let : ∀ c : Fin 256, (97 ≤ (c.val ||| 32) ∧ (c.val ||| 32) ≤ 122) ↔ (97 ≤ c.val ∧ c.val ≤ 122) ∨ (65 ≤ c.val ∧ c.val ≤ 90) := by decide +kernel
theorem lower_val : ∀ c : Fin 256, ((97 ≤ c.val ∧ c.val ≤ 122) → (c.val ||| 32) = c.val) ∧ ((65 ≤ c.val ∧ c.val ≤ 90) → (c.val ||| 32) = c.val + 32) := by decide +kernel
set_option maxHeartbeats 400000 in
set_option maxRecDepth 100000 in
theorem lower_any (c : UInt8) (w : World) : Calls Tryd.prog 50 #[.int .u8 c.toNat] w fun e w' => e = .returned (.int .u8 ((c.toNat ||| 32 : Nat) : Int)) ∧ w = w' := by
  have h := lower_bits ⟨c.toNat, c.toNat_lt⟩
  simp only at h
  rw [← h]
  generalize (c.toNat : Int) = x
  go_enter Tryd.func50, Tryd.ntmps50
  go_wp2
  go_ret
  exact ⟨rfl, rfl⟩
set_option maxHeartbeats 400000 in
set_option maxRecDepth 100000 in
theorem lower_i (x : Int) (w : World) : Calls Tryd.prog 50 #[.int .u8 x] w fun e w' => e = .returned (.int .u8 (bits .or .u8 x 32)) ∧ w = w' := by
  go_enter Tryd.func50, Tryd.ntmps50
  go_wp2
  go_ret
  exact ⟨rfl, rfl⟩
theorem digV_lt (c : UInt8) : digV c < 256 := by
  have := c.toNat_lt
  unfold digV
  repeat' split
  all_goals omega
end Go.Proofs.YtcgpaopbcclbiaaDoor.Lf
