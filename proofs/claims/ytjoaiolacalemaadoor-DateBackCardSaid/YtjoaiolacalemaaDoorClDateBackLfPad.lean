import Derived.Test.YtjoaiolacalemaaDoorLfShelf
import Derived.WalkKit
import Derived.Lib.AppendIntMem
import Derived.Lib.ItoaLen
import Derived.KernelRfl
import Derived.Laws.Rows
import Derived.Test.YtjoaiolacalemaaDoorClDateBack0
/- date.padded at this translation: a number's numeral, with noughts ahead. strconv.Itoa and strings.Repeat off the shelf (LfShelf). -/







namespace Go.Proofs.YtjoaiolacalemaaDoor.Lf
open Go.RowKit Go.Shelf Go.Lib Go.Sort Go.Proofs.YtjoaiolacalemaaDoorW.PrintWords
theorem lt_cell {w : World} {p : Addr} {v : Value} (h : w.cell? p = some v) : p.block < w.heap.size := by
  rcases Nat.lt_or_ge p.block w.heap.size with h' | h'
  · exact h'
  · unfold World.cell? at h; rw [Array.getElem?_eq_none h'] at h; simp at h
/-- What date.Read leans on beside the tables: bytealg.MaxLen and strconv's two errors. -/
structure Errs (w : World) : Prop where
  ml : ∃ M : Int, w.cell? ⟨0, 0, none⟩ = some (.int .i64 M)
  es : ∃ te pe, w.cell? ⟨1, 0, none⟩ = some (.iface te pe)
  er : ∃ te pe, w.cell? ⟨2, 0, none⟩ = some (.iface te pe)
theorem Errs.below {w w' : World} (h : Errs w) (hb : Below w.heap.size w w') : Errs w' := by
  obtain ⟨⟨M, h1⟩, ⟨a, b, h2⟩, ⟨c, d, h3⟩⟩ := h
  exact ⟨⟨M, (hb.cell (p := ⟨0, 0, none⟩) (lt_cell h1)).trans h1⟩, ⟨a, b, (hb.cell (p := ⟨1, 0, none⟩) (lt_cell h2)).trans h2⟩, ⟨c, d, (hb.cell (p := ⟨2, 0, none⟩) (lt_cell h3)).trans h3⟩⟩
theorem Errs.drewN {w : World} (h : Errs w) (n : Nat) : Errs (w.drewN n) := h.below ⟨rfl, rfl, rfl, Nat.le_refl _, fun _ _ => rfl⟩
/-- The table of powers of ten, strconv's two errors, bytealg.MaxLen: as their initialisers lay them. -/
structure Tabs (w : World) : Prop where mk :: (out : Lib.TabIs Tryd.prog w "internal/strconv.uint64pow10" .u64 Lib.pow10Tab) (errs : Errs w)
theorem Tabs.below {w w' : World} (h : Tabs w) (hb : Below w.heap.size w w') : Tabs w' := ⟨(tabBelow_of_tabIs h.out) w' hb, h.errs.below hb⟩
theorem itoa_calls (n : Int) (h0 : -9223372036854775808 ≤ n) (h1 : n ≤ 9223372036854775807) (w : World) (HT : Tabs w) :
    Calls Tryd.prog 27 #[.int .i64 n] w fun e w' => e = .returned (.string ⟨(Lib.itoa n).toArray⟩) ∧ Below w.heap.size w w' := by
  refine (Sh.strconv_Itoa n h0 h1 w HT.out).mono ?_
  rintro e w' ⟨rfl, k, os, rfl⟩
  exact ⟨rfl, below_grow _ w (Nat.le_refl _) k os⟩
/-- A numeral, with noughts ahead up to d digits. -/
def padL (n d : Int) : List UInt8 := Lib.repeatL [48] (d - (Lib.itoa n).length).toNat ++ Lib.itoa n
def date_padded.f (a0 a1 : Int) : Option ByteArray := if (-9223372036854775808 ≤ a0 ∧ a0 ≤ 9223372036854775807) ∧ 0 ≤ a1 ∧ a1 ≤ 100 then some ⟨(padL a0 a1).toArray⟩ else none
set_option maxHeartbeats 4000000 in
set_option maxRecDepth 100000 in
theorem date_padded.calls (a0 a1 : Int) (r : ByteArray) (w : World) (h : date_padded.f a0 a1 = some r) (HT : Tabs w) :
    Calls Tryd.prog 18 #[.int .i64 a0, .int .i64 a1] w fun e w' => e = .returned (.string r) ∧ Below w.heap.size w w' := by
  unfold date_padded.f at h
  split at h
  case isFalse => cases h
  rename_i hb
  cases h
  obtain ⟨⟨h0, h1⟩, h2, h3⟩ := hb
  have hlen := itoa_length_le a0 h0 h1
  obtain ⟨s, hs⟩ : ∃ s : ByteArray, s = ⟨(Lib.itoa a0).toArray⟩ := ⟨_, rfl⟩
  have hsz : s.size = (Lib.itoa a0).length := by rw [hs]; simp [ByteArray.size]
  obtain ⟨c, hc⟩ : ∃ c : Nat, c = (a1 - (Lib.itoa a0).length).toNat := ⟨_, rfl⟩
  have hHT := Aside0.mk HT
  clear HT
  go_enter Tryd.func18, Tryd.ntmps18
  go_wp2_with (first | (go_at_call 27; fail))
  refine (itoa_calls a0 h0 h1 w hHT.out).mono ?_
  rintro e w1 ⟨rfl, hb1⟩
  rw [← hs]
  go_wp2_with (first | (go_at_call 28; fail))
  rw [show max (a1 - ((Lib.itoa a0).length : Int)) 0 = ((c : Nat) : Int) from by omega]
  refine (Sh.strings_Repeat ⟨#[48]⟩ c w1 (by omega) (by show 1 * c ≤ _; omega)).mono ?_
  rintro e w2 ⟨rfl, hb2⟩
  have hsz2 : (ByteArray.size ⟨(Lib.repeatL [48] c).toArray⟩) = c := by simp [ByteArray.size, Lib.repeatL_length]
  have hw2 := below_step hb1 hb2
  clear hb1 hb2
  go_wp2
  · rename_i hz
    exfalso
    rw [Lib.repeatL_length, List.length_singleton] at hz
    omega
  go_ret
  refine ⟨?_, hw2⟩
  have e : a1.toNat - (Lib.itoa a0).length = (a1 - (Lib.itoa a0).length).toNat := by omega
  rw [e]
  congr 2
end Go.Proofs.YtjoaiolacalemaaDoor.Lf
