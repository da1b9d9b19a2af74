/- Texts to bytes and back, as the walks meet them. -/
import Derived.Test.YtcgpaopbcclbiaaDoorProg
import Derived.WalkKit
import Derived.Below
import Derived.Laws.BytesArg
import Derived.Lib.ConvBytes
import Derived.Lib.Hide
import Derived.KernelRfl
namespace Go.Proofs.YtcgpaopbcclbiaaDoor.Lf
open Go.RowKit
theorem to_bytes (w : World) (s : ByteArray) : ∃ W1 C, (convert 9 32 (.string s)).run Tryd.prog w = .ok (.slice (some ⟨w.heap.size, 0, none⟩) s.size C) W1 ∧
    (∀ j, j < s.size → W1.cell? ⟨w.heap.size, j, none⟩ = some (.int .u8 (s.data.toList.getD j 0).toNat)) ∧ (∀ j, j < s.size → W1.frozen? ⟨w.heap.size, j, none⟩ = false) ∧ w.heap.size < W1.heap.size ∧ Below w.heap.size w W1 := by
  refine ⟨_, _, Lib.run_convert_string_bytes w 9 32 5 s Tryd.underlying9 Tryd.underlying32 Tryd.underlying5, fun j hj => Lib.bytesWorld_cell w 5 s j hj, ?_, ?_, ?_⟩
  · intro j hj
    have hsz : s.size ≤ (Lib.bytesCells w 5 s).size := by simp [Lib.bytesCells]
    simp only [World.frozen?, Lib.bytesWorld_at_new]
    simp
    omega
  · rw [Lib.bytesWorld_size]; omega
  · exact ⟨rfl, rfl, rfl, by rw [Lib.bytesWorld_size]; omega, fun i hi => Lib.bytesWorld_at_old w 5 s i hi⟩
theorem of_bytes (w : World) (b n c : Nat) (zs : List Int) (hz : zs.length = n) (hc : ∀ j, j < n → w.cell? ⟨b, j, none⟩ = some (.int .u8 (zs.getD j 0))) :
    (convert 32 9 (.slice (some ⟨b, 0, none⟩) n c)).run Tryd.prog w = .ok (.string (strOfNums zs)) w :=
  run_convert_bytes_arg w 32 5 Tryd.underlying32 Tryd.underlying5 b 0 n c zs hz (fun i hi => by rw [Nat.zero_add]; exact hc i hi) 9 Tryd.underlying9
end Go.Proofs.YtcgpaopbcclbiaaDoor.Lf
