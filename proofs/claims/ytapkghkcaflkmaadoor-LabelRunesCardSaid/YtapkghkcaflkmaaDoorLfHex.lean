/- label.byHex, walked: a number in base 16, by strconv.FormatInt's own text. -/
import Derived.Test.YtapkghkcaflkmaaDoorLfValid
import Derived.Test.YtapkghkcaflkmaaDoorLfConv
import Derived.Laws.BitsAllLaws
namespace Go.Proofs.YtapkghkcaflkmaaDoor.Lf
open Go.RowKit Go.Lib
set_option maxHeartbeats 400000 in
set_option maxRecDepth 100000 in
theorem tz64_16 (w : World) (hT : Tabs w) : Calls Tryd.prog 83 #[.int .u64 16] w fun e w' => e = .returned (.int .i64 4) ∧ w = w' := by
  have hd := hT.db
  clear hT
  have key : IntKind.u64.wrap (bits BinOp.and IntKind.u64 16 (IntKind.u64.wrap (-16)) * 285870213051353865) / 288230376151711744 = 15 := by decide +kernel
  go_enter Tryd.func83, Tryd.ntmps83
  go_wp2_with (simp only [key])
  go_ret
  exact ⟨rfl, rfl⟩
set_option maxHeartbeats 400000 in
set_option maxRecDepth 100000 in
theorem tz_16 (w : World) (hT : Tabs w) : Calls Tryd.prog 76 #[.int .u64 16] w fun e w' => e = .returned (.int .i64 4) ∧ w = w' := by
  go_enter Tryd.func76, Tryd.ntmps76
  go_wp2_with (go_at_call 83; refine (tz64_16 _ hT).mono ?_; rintro e w' ⟨rfl, rfl⟩)
  go_ret
  exact ⟨rfl, rfl⟩
set_option maxHeartbeats 400000 in
set_option maxRecDepth 100000 in
theorem pow2_16 (w : World) : Calls Tryd.prog 75 #[.int .i64 16] w fun e w' => e = .returned (.bool true) ∧ w = w' := by
  go_enter Tryd.func75, Tryd.ntmps75
  go_wp2
  go_ret
  exact ⟨rfl, rfl⟩
/-- A digit in base 16. -/
def hd (n : Nat) : UInt8 := if n < 10 then UInt8.ofNat (48 + n) else UInt8.ofNat (87 + n)
/-- A number in base 16. -/
def hexL (n : Nat) : List UInt8 := if _h : n < 16 then [hd n] else hexL (n / 16) ++ [hd (n % 16)]
termination_by n
decreasing_by omega
theorem hexL_lt {n : Nat} (h : n < 16) : hexL n = [hd n] := by rw [hexL, dif_pos h]
theorem hexL_ge {n : Nat} (h : ¬ n < 16) : hexL n = hexL (n / 16) ++ [hd (n % 16)] := by rw [hexL, dif_neg h]
theorem len65 : Tryd.prog.arrayLen 89 = 65 := by kernel_rfl
theorem elem65 : Tryd.prog.elem 89 = 5 := by kernel_rfl
theorem size65 (W : World) : (sizeOf 5).run Tryd.prog W = .ok 1 W := by kernel_rfl
theorem under65 : Tryd.prog.underlying 89 = some (.array (Tryd.prog.arrayLen 89) (Tryd.prog.elem 89)) := by rw [len65, elem65]; exact Tryd.underlying89
theorem slice65 (b m : Nat) (h1 : m < 65) (W : World) : (Instr.sliceAt 89 (.pointer (some ⟨b, 0, none⟩)) (some (.int .i64 m)) none none).run Tryd.prog W = .ok (.slice (some ⟨b, m, none⟩) (65 - m) (65 - m)) W := by
  rw [run_sliceAt_array_l (P := Tryd.prog) W 89 _ under65 .i64 m (by omega) (by rw [len65]; omega), elem65, size65, len65]
  have e : ¬ (65 : Int).toNat = m := by simp; omega
  by_cases h0 : m = 0
  · subst h0; simp [slicedAt, Addr.add]
  · simp [slicedAt, Addr.add, h0]; omega
abbrev digs36 : ByteArray := ⟨#[48, 49, 50, 51, 52, 53, 54, 55, 56, 57, 97, 98, 99, 100, 101, 102, 103, 104, 105, 106, 107, 108, 109, 110, 111, 112, 113, 114, 115, 116, 117, 118, 119, 120, 121, 122]⟩
theorem dig36_fin : ∀ r : Fin 16, digs36[r.val]'(Nat.lt_trans r.isLt (by decide)) = hd r.val := by decide +kernel
theorem dig36 (r : Nat) (h : r < 16) (hs : r < digs36.size) : digs36[r]'hs = hd r := dig36_fin ⟨r, h⟩
set_option maxHeartbeats 800000 in
set_option maxRecDepth 100000 in
theorem bits_any (n : Nat) (w : World) (hn : n < 1152921504606846976) (hT : Tabs w) :
    Calls Tryd.prog 61 #[.slice none 0 0, .int .u64 n, .int .i64 16, .bool false, .bool false] w fun e w' => e = .returned (.tuple #[.slice none 0 0, .string ⟨(hexL n).toArray⟩]) ∧ Below w.heap.size w w' := by
  go_enter Tryd.func61, Tryd.ntmps61
  go_wp2_with (go_at_call 75; refine (pow2_16 _).mono ?_; rintro e w' ⟨rfl, rfl⟩)
  generalize hW : World.alloc w _ = W
  have hTW : Tabs W := by rw [← hW]; exact hT.below ((Below.refl _ _).alloc (Nat.le_refl _) _)
  have hcW : ∀ i, i < 65 → W.cell? ⟨w.heap.size, i, none⟩ = some (.int .u8 0) := by
    intro i hi
    rw [← hW, World.cell?_alloc_new]
    show (Array.replicate 65 (Value.int .u8 0))[i]? = _
    rw [Array.getElem?_replicate, if_pos hi]
  have hfW : ∀ i, W.frozen? ⟨w.heap.size, i, none⟩ = false := by
    intro i
    rw [← hW]
    exact World.frozen?_alloc_new _ _ _ _
  have hzW : w.heap.size < W.heap.size := by rw [← hW]; simp
  have hbW : Below w.heap.size w W := by rw [← hW]; exact (Below.refl _ _).alloc (Nat.le_refl _) _
  clear hW
  have HC := Lib.hid hcW
  have HF := Lib.hid hfW
  clear hcW hfW
  go_wp2_with (go_at_call 76; refine (tz_16 _ hTW).mono ?_; rintro e w' ⟨rfl, rfl⟩)
  clear hTW hT
  go_loopw [1, 13] (fun vu vi wr => ∃ (u i : Nat) (tl : List UInt8) (G : Nat → Int), vu = .int .u64 u ∧ vi = .int .i64 i ∧ i + tl.length = 65 ∧ u ≤ n ∧ u < 16 ^ (i - 50) ∧ 51 ≤ i ∧ hexL n = hexL u ++ tl ∧ (∀ j, j < 65 → wr.cell? ⟨w.heap.size, j, none⟩ = some (.int .u8 (G j))) ∧ (∀ j, j < tl.length → G (i + j) = ((tl.getD j 0).toNat : Int)) ∧ (∀ j, wr.frozen? ⟨w.heap.size, j, none⟩ = false) ∧ w.heap.size < wr.heap.size ∧ Below w.heap.size w wr) (fun vu _ _ => (RowKit.intOf vu).toNat)
  case atStart => exact ⟨n, 65, [], fun _ => 0, rfl, rfl, rfl, Nat.le_refl _, hn, by omega, by simp, HC.out, fun j hj => by simp at hj, HF.out, hzW, hbW⟩
  case round =>
    obtain ⟨u, i, tl, G, rfl, rfl, hi, hun, hu, h51, hx, hc, hg, hf, hz, hb⟩ := hrel
    have Hc := Lib.hid hc
    have Hg := Lib.hid hg
    have Hf := Lib.hid hf
    have Hx := Lib.hid hx
    clear hc hg hf hx
    by_cases hge : 16 ≤ u
    · have hgei : (16 : Int) ≤ (u : Int) := by omega
      have h52 : 52 ≤ i := by
        by_cases e : i = 51
        · subst e; simp at hu; omega
        · omega
      have hu2 : u / 16 < 16 ^ (i - 1 - 50) := by
        rw [show i - 50 = (i - 1 - 50) + 1 by omega, Nat.pow_succ] at hu
        omega
      have Hu2 := Lib.hid hu2
      have hck := Hc.out (i - 1) (by omega)
      have hfk := Hf.out (i - 1)
      have hand : bits .and .u64 (u : Int) 15 = ((u % 16 : Nat) : Int) := by
        have := bits_and_u64_nat u 15 (by omega) (by omega)
        rw [show ((15 : Nat) : Int) = 15 from rfl] at this
        rw [this, show (15 : Nat) = 2 ^ 4 - 1 from rfl, Nat.and_two_pow_sub_one_eq_mod]
      have hd1 := dig36 (u % 16) (Nat.mod_lt _ (by omega)) (Nat.lt_trans (Nat.mod_lt _ (by omega)) (by decide))
      have Hd := Lib.hid hd1
      clear hu hu2 hd1
      have w1 : IntKind.i64.wrap ((i : Int) - 1) = ((i - 1 : Nat) : Int) := by
        simp [IntKind.wrap, IntKind.bits, IntKind.signed]
        omega
      go_wp2
      go_roundw
      case rel =>
        refine ⟨u / 16, i - 1, hd (u % 16) :: tl, fun j => if j = i - 1 then ((hd (u % 16)).toNat : Int) else G j, by rw [Int.natCast_ediv]; rfl, rfl, by simp; omega, by omega, Hu2.out, by omega, ?_, ?_, ?_, ?_, by simpa using hz, hb.setCell (p := ⟨w.heap.size, i - 1, none⟩) (Nat.le_refl _) _⟩
        · rw [Hx.out, hexL_ge (by omega)]; simp
        · intro j hj
          by_cases e : j = i - 1
          · subst e
            rw [World.cell?_setCell_same' _ _ _ (by rw [hck]; rfl)]
            show _ = some (Value.int .u8 (if i - 1 = i - 1 then ((hd (u % 16)).toNat : Int) else G (i - 1)))
            rw [if_pos rfl]
            exact congrArg (fun c : UInt8 => some (Value.int .u8 (c.toNat : Int))) Hd.out
          · have hne : (⟨w.heap.size, i - 1, none⟩ : Addr) ≠ ⟨w.heap.size, j, none⟩ := fun h => e (by cases h; rfl)
            rw [World.cell?_setCell_other _ _ _ _ hne, Hc.out j hj]
            show _ = some (Value.int .u8 (if j = i - 1 then ((hd (u % 16)).toNat : Int) else G j))
            rw [if_neg e]
        · intro j hj
          show (if i - 1 + j = i - 1 then ((hd (u % 16)).toNat : Int) else G (i - 1 + j)) = _
          cases j with
          | zero => rw [if_pos (by omega)]; rfl
          | succ j => rw [if_neg (by omega), show i - 1 + (j + 1) = i + j by omega, Hg.out j (by simpa using hj)]; rfl
        · intro j
          rw [World.frozen?_setCell]
          exact Hf.out j
      case measure => simp [RowKit.intOf]; omega
    · have hlti : ¬ (16 : Int) ≤ (u : Int) := by omega
      have hck := Hc.out (i - 1) (by omega)
      have hfk := Hf.out (i - 1)
      have hd1 := dig36 u (by omega) (Nat.lt_trans (show u < 16 by omega) (by decide))
      have Hd := Lib.hid hd1
      clear hu hd1
      have w1 : IntKind.i64.wrap ((i : Int) - 1) = ((i - 1 : Nat) : Int) := by
        simp [IntKind.wrap, IntKind.bits, IntKind.signed]
        omega
      have hsl := slice65 w.heap.size (i - 1) (by omega)
      have hcv : ∀ v : UInt8, v = hd u → (convert 35 9 (.slice (some ⟨w.heap.size, i - 1, none⟩) (65 - (i - 1)) (65 - (i - 1)))).run Tryd.prog (wr.setCell ⟨w.heap.size, i - 1, none⟩ (.int .u8 v.toNat)) = .ok (.string ⟨(hexL n).toArray⟩) (wr.setCell ⟨w.heap.size, i - 1, none⟩ (.int .u8 v.toNat)) := by
        intro v hv
        have e1 : (65 - (i - 1)) = (hd u :: tl).length := by simp; omega
        rw [run_convert_bytes_arg _ 35 5 Tryd.underlying35 Tryd.underlying5 w.heap.size (i - 1) (65 - (i - 1)) (65 - (i - 1)) ((hd u :: tl).map fun c => (c.toNat : Int)) (by rw [List.length_map, e1]) ?_ 9 Tryd.underlying9]
        · congr 2
          rw [Hx.out, hexL_lt (by omega)]
          unfold strOfNums
          simp [List.map_map, Function.comp_def]
        · intro j hj
          cases j with
          | zero =>
            rw [Nat.add_zero, World.cell?_setCell_same' _ _ _ (by rw [hck]; rfl), hv]
            rfl
          | succ j =>
            have hne : (⟨w.heap.size, i - 1, none⟩ : Addr) ≠ ⟨w.heap.size, i - 1 + (j + 1), none⟩ := fun h => by have := congrArg Addr.off h; simp only at this; omega
            rw [World.cell?_setCell_other _ _ _ _ hne, Hc.out _ (by omega), show i - 1 + (j + 1) = i + j by omega, Hg.out j (by omega)]
            rw [List.map_cons, List.getD_cons_succ, List.getD_eq_getElem?_getD, List.getD_eq_getElem?_getD, List.getElem?_map]
            cases tl[j]? <;> rfl
      have Hcv := Lib.hid hcv
      clear hcv
      go_wp2
      rw [Hcv.out _ Hd.out]
      go_wp2
      go_ret2
      exact ⟨rfl, hb.setCell (p := ⟨w.heap.size, i - 1, none⟩) (Nat.le_refl _) _⟩
set_option maxHeartbeats 800000 in
set_option maxRecDepth 100000 in
theorem iformat_any (n : Nat) (w : World) (hn : n < 1152921504606846976) (hT : Tabs w) :
    Calls Tryd.prog 51 #[.int .i64 n, .int .i64 16] w fun e w' => e = .returned (.string ⟨(hexL n).toArray⟩) ∧ Below w.heap.size w w' := by
  have c := bits_any n w hn hT
  generalize hexL n = H at c ⊢
  go_enter Tryd.func51, Tryd.ntmps51
  go_wp2_with (go_at_call 61; refine c.mono ?_; rintro e w' ⟨rfl, hb⟩)
  go_ret
  exact ⟨rfl, hb⟩
set_option maxHeartbeats 800000 in
set_option maxRecDepth 100000 in
theorem format_any (n : Nat) (w : World) (hn : n < 1152921504606846976) (hT : Tabs w) :
    Calls Tryd.prog 41 #[.int .i64 n, .int .i64 16] w fun e w' => e = .returned (.string ⟨(hexL n).toArray⟩) ∧ Below w.heap.size w w' := by
  have c := iformat_any n w hn hT
  generalize hexL n = H at c ⊢
  go_enter Tryd.func41, Tryd.ntmps41
  go_wp2_with (go_at_call 51; refine c.mono ?_; rintro e w' ⟨rfl, hb⟩)
  go_ret
  exact ⟨rfl, hb⟩
set_option maxHeartbeats 800000 in
set_option maxRecDepth 100000 in
theorem byHex_any (n : Nat) (w : World) (hn : n < 2147483648) (hT : Tabs w) :
    Calls Tryd.prog 30 #[.int .i32 n] w fun e w' => e = .returned (.string ⟨(hexL n).toArray⟩) ∧ Below w.heap.size w w' := by
  have c := format_any n w (by omega) hT
  generalize hexL n = H at c ⊢
  go_enter Tryd.func30, Tryd.ntmps30
  go_wp2_with (go_at_call 41; refine c.mono ?_; rintro e w' ⟨rfl, hb⟩)
  go_ret
  exact ⟨rfl, hb⟩
end Go.Proofs.YtapkghkcaflkmaaDoor.Lf
