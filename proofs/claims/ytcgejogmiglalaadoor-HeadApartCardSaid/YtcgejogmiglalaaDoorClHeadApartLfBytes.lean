import Derived.Test.YtcgejogmiglalaaDoorClHeadApart0
import Derived.Test.YtcgejogmiglalaaDoorProg
import Derived.Lib.ConvBytes
import Derived.KernelRfl





namespace Go.Proofs.YtcgejogmiglalaaDoor.Lf.Kd
open Go Go.RowKit Go.Lib Go.Proofs.YtcgejogmiglalaaDoorW.PrintWords
def B (_d : Kd Int) (e : Nat) (w : World) (base : Nat) (ok : Nat → Prop) (v : Value) (xs : List Int) : Prop :=
  (∀ k, v.ownBlock = some k → ok k) ∧ ∃ g cap cur lo, v = .slice (some ⟨g, 0, none⟩) xs.length cap ∧ base ≤ g ∧ w.heap[g]? = some (.cells cur e (lo, lo + 1)) ∧ xs.length ≤ cap ∧ cur.size ≤ lo ∧ xs.length ≤ 9223372036854775807 ∧ cur.toList.take xs.length = nums .u8 xs
variable {d : Kd Int} {e : Nat} {w w1 W : World} {base base' : Nat} {ok ok' : Nat → Prop} {v : Value} {xs : List Int} {g n cap : Nat}
end Go.Proofs.YtcgejogmiglalaaDoor.Lf.Kd
