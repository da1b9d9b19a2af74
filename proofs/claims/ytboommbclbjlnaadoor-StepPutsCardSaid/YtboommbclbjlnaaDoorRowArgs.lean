/- Arguments of the rows, opened: a number, a text, a step by value. -/
import Derived.Test.YtboommbclbjlnaaDoorRowBase
import Derived.Lib.SmallJoins
namespace Go.Proofs.YtboommbclbjlnaaDoor.RowA
open Go.Shelf Go.ChangeShapes Go.WideShapes Go.ChangeAt Go.RowKit Go.Lib Go.Deep
open Go.ChangeMaps (open_string shut_string)
set_option maxRecDepth 100000
section
variable {H : Type} {enc : TypeId × Value → H} {W : World} {base b0 : Nat} {sp : Nat → Bool} {held : Bool}
theorem open_num {t : TypeId} {k : IntKind} (ht : Tryd.prog.underlying t = some (.int k)) {r : Reach} {v : Value} {d : DataW H} {p : List MemPlace} (hv : Value.okWide Tryd.prog W r b0 t v)
    (h : DataW.Trod enc Tryd.prog W base sp held t v d p) : ∃ a : Int, v = .int k a ∧ (Lit.int k a).wf = true := by
  obtain ⟨a, rfl, _, _, w⟩ := open_int ht hv h
  exact ⟨a, rfl, w⟩
theorem open_text {r : Reach} {v : Value} {d : DataW H} {p : List MemPlace} (hv : Value.okWide Tryd.prog W r b0 9 v)
    (h : DataW.Trod enc Tryd.prog W base sp held 9 v d p) : ∃ s : ByteArray, v = .string s ∧ s.size ≤ maxLen := by
  obtain ⟨s, rfl, _, _, w⟩ := open_string Tryd.underlying9 hv h
  exact ⟨s, rfl, w⟩
theorem cells3 : Tryd.prog.cellsOf 3 = 1 := by kernel_rfl
theorem cells9 : Tryd.prog.cellsOf 9 = 1 := by kernel_rfl
theorem cells22 : Tryd.prog.cellsOf 22 = 1 := by kernel_rfl
theorem cells24 : Tryd.prog.cellsOf 24 = 5 := by kernel_rfl
theorem one24 : oneCellFields Tryd.prog (Tryd.prog.fieldsOf 24) = true := by kernel_rfl
theorem open_step {r : Reach} {v : Value} {d : DataW H} {p : List MemPlace} (hv : Value.okWide Tryd.prog W r b0 24 v)
    (h : DataW.Trod enc Tryd.prog W base sp held 24 v d p) : ∃ (a0 a1 a2 a3 : Int) (a4 : ByteArray), v = .agg #[.int .i64 a0, .int .i64 a1, .int .i64 a2, .int .u64 a3, .string a4] ∧ (0 ≤ a3 ∧ a3 < 18446744073709551616) ∧ a4.size ≤ maxLen := by
  obtain ⟨cs, rfl, hsz⟩ := okWide_struct Tryd.underlying24 hv
  obtain ⟨l⟩ := cs
  match l, hsz.trans cells24 with
  | [c0, c1, c2, c3, c4], _ =>
    obtain ⟨fuel, hf⟩ := h
    obtain ⟨xs, n, _, hx, _, hlen, hg⟩ := DataW.trod_struct Tryd.underlying24 hf
    match xs, hlen with
    | [y0, y1, y2, y3, y4], _ =>
      have g0 := hg 0 _ rfl
      change DataW.trod enc Tryd.prog W base sp held n 3 (([c0, c1, c2, c3, c4].drop 0).take (Tryd.prog.cellsOf 3)) = some y0 at g0
      rw [cells3] at g0
      have g1 := hg 1 _ rfl
      change DataW.trod enc Tryd.prog W base sp held n 3 (([c0, c1, c2, c3, c4].drop 1).take (Tryd.prog.cellsOf 3)) = some y1 at g1
      rw [cells3] at g1
      have g2 := hg 2 _ rfl
      change DataW.trod enc Tryd.prog W base sp held n 3 (([c0, c1, c2, c3, c4].drop 2).take (Tryd.prog.cellsOf 3)) = some y2 at g2
      rw [cells3] at g2
      have g3 := hg 3 _ rfl
      change DataW.trod enc Tryd.prog W base sp held n 22 (([c0, c1, c2, c3, c4].drop 3).take (Tryd.prog.cellsOf 22)) = some y3 at g3
      rw [cells22] at g3
      have g4 := hg 4 _ rfl
      change DataW.trod enc Tryd.prog W base sp held n 9 (([c0, c1, c2, c3, c4].drop 4).take (Tryd.prog.cellsOf 9)) = some y4 at g4
      rw [cells9] at g4
      obtain ⟨m0, e0, _, w0⟩ := DataW.trod_int Tryd.underlying3 g0
      obtain ⟨m1, e1, _, w1⟩ := DataW.trod_int Tryd.underlying3 g1
      obtain ⟨m2, e2, _, w2⟩ := DataW.trod_int Tryd.underlying3 g2
      obtain ⟨m3, e3, _, w3⟩ := DataW.trod_int Tryd.underlying22 g3
      obtain ⟨m4, e4, _, w4⟩ := DataW.trod_string Tryd.underlying9 g4
      cases e0; cases e1; cases e2; cases e3; cases e4
      refine ⟨m0, m1, m2, m3, m4, rfl, ?_, w4⟩
      have hb := bounds_u64 w3
      omega
end
end Go.Proofs.YtboommbclbjlnaaDoor.RowA
