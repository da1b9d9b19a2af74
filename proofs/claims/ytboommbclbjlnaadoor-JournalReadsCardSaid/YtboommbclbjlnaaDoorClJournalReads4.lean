-- Packed by pack.py, a program of this session, out of texts of this claim.
import Derived.Test.YtboommbclbjlnaaDoorClJournalReads1
import Derived.Test.YtboommbclbjlnaaDoorClJournalReads2
import Derived.Test.YtboommbclbjlnaaDoorClJournalReads3
section
-- Written by printx.py, a program of this session over the kit's print: each Go function as a plain Lean function, and that the Go code computes it.
namespace Go.Proofs.YtboommbclbjlnaaDoor.Fn
open Go.RowKit Go.Proofs.YtboommbclbjlnaaDoorW.PrintWords Go.Proofs.YtboommbclbjlnaaDoorW.PrintLast Go.Proofs.YtboommbclbjlnaaDoorW.PrintMore Go.Proofs.YtboommbclbjlnaaDoor.Lf
attribute [local go_sem] max2_int min2_int max_two min_two max_three min_three max_four min_four   -- for this text's walks alone
set_option linter.unusedVariables false
set_option linter.unusedSimpArgs false
mutual
def journal_Read.j4 : Nat → Int → List (S44) → ByteArray → Option (Int × (List (S44)) × ByteArray × Int)
 | 0, _, _, _ => none
 | k + 1, x224000, x224001, x224002 => some (x224000, x224001, x224002, (x224002.size : Int))
def journal_Read.l0 : Nat → Int → List (S24) → List (S24) → Int → Int → Int → List (S44) → ByteArray → Option (Int × (List (S44)) × ByteArray × Int)
 | 0, _, _, _, _, _, _, _, _ => none
 | k + 1, x5, x6, x16, x17, x18, x224000, x224001, x224002 => if x18 < x17 then (if 0 ≤ x18 then (if x18 < (x16.length : Int) then (if ((rd_T24 x16 x18).f0) = 8 then (if (x224001.length : Int) = 0 then (journal_Read.j1 k x5 x6 x18 true x16 x17 x18 x224000 x224001 x224002 ((rd_T24 x16 x18).f0) ((rd_T24 x16 x18).f1) ((rd_T24 x16 x18).f2) ((rd_T24 x16 x18).f3) ((rd_T24 x16 x18).f4)) else (if x224000 < 18446744073709551615 then (journal_Read.j1 k x5 x6 x18 (((rd_T24 x16 x18).f3) == (IntKind.u64.wrap (x224000 + 1))) x16 x17 x18 x224000 x224001 x224002 ((rd_T24 x16 x18).f0) ((rd_T24 x16 x18).f1) ((rd_T24 x16 x18).f2) ((rd_T24 x16 x18).f3) ((rd_T24 x16 x18).f4)) else (journal_Read.j1 k x5 x6 x18 false x16 x17 x18 x224000 x224001 x224002 ((rd_T24 x16 x18).f0) ((rd_T24 x16 x18).f1) ((rd_T24 x16 x18).f2) ((rd_T24 x16 x18).f3) ((rd_T24 x16 x18).f4)))) else (journal_Read.j3 k x5 x6 x16 x17 x18 x224000 x224001 x224002)) else (none)) else (none)) else (journal_Read.j4 k x224000 x224001 x224002)
def journal_Read.j3 : Nat → Int → List (S24) → List (S24) → Int → Int → Int → List (S44) → ByteArray → Option (Int × (List (S44)) × ByteArray × Int)
 | 0, _, _, _, _, _, _, _, _ => none
 | k + 1, x5, x6, x16, x17, x18, x224000, x224001, x224002 => journal_Read.l0 k x5 x6 x16 x17 (wrap64 (x18 + 1)) x224000 x224001 x224002
def journal_Read.j1 : Nat → Int → List (S24) → Int → Bool → List (S24) → Int → Int → Int → List (S44) → ByteArray → Int → Int → Int → Int → ByteArray → Option (Int × (List (S44)) × ByteArray × Int)
 | 0, _, _, _, _, _, _, _, _, _, _, _, _, _, _, _ => none
 | k + 1, x5, x6, x8, x10, x16, x17, x18, x224000, x224001, x224002, x230000, x230001, x230002, x230003, x230004 => if x230001 = 0 then (if x230002 = 0 then (journal_Read.j2 k x5 x6 x8 x16 x17 x18 (!x10) x224000 x224001 x224002 x230000 x230001 x230002 x230003 x230004) else (journal_Read.j2 k x5 x6 x8 x16 x17 x18 true x224000 x224001 x224002 x230000 x230001 x230002 x230003 x230004)) else (journal_Read.j2 k x5 x6 x8 x16 x17 x18 true x224000 x224001 x224002 x230000 x230001 x230002 x230003 x230004)
def journal_Read.j2 : Nat → Int → List (S24) → Int → List (S24) → Int → Int → Bool → Int → List (S44) → ByteArray → Int → Int → Int → Int → ByteArray → Option (Int × (List (S44)) × ByteArray × Int)
 | 0, _, _, _, _, _, _, _, _, _, _, _, _, _, _, _ => none
 | k + 1, x5, x6, x8, x16, x17, x18, x54, x224000, x224001, x224002, x230000, x230001, x230002, x230003, x230004 => if x54 = true then (journal_Read.j4 k x224000 x224001 x224002) else (if 0 ≤ x5 then (if x5 ≤ x8 then (if x8 ≤ (x6.length : Int) then ((journal_Log_with.f k x224000 x224001 x224002 x230003 ((x6.take (x8 : Int).toNat).drop (x5 : Int).toNat)).bind fun bt234 => (journal_Read.j3 k (wrap64 (x8 + 1)) x6 x16 x17 x18 bt234.1 bt234.2.1 bt234.2.2.1)) else (none)) else (none)) else (none))
end
def journal_Read.f (k : Nat) (a0 : ByteArray) : Option (Int × (List (S44)) × ByteArray × Int) := (step_Scan.f k a0).bind fun bt224 => (journal_Read.l0 k 0 bt224.1 bt224.1 (bt224.1.length : Int) 0 0 ([] : List (S44)) (⟨#[]⟩ : ByteArray))
theorem journal_Read.mono_l : ∀ k, (∀ y0 y1 y2, LeO (journal_Read.j4 k y0 y1 y2) (journal_Read.j4 (k + 1) y0 y1 y2)) ∧ (∀ y0 y1 y2 y3 y4 y5 y6 y7, LeO (journal_Read.l0 k y0 y1 y2 y3 y4 y5 y6 y7) (journal_Read.l0 (k + 1) y0 y1 y2 y3 y4 y5 y6 y7)) ∧ (∀ y0 y1 y2 y3 y4 y5 y6 y7, LeO (journal_Read.j3 k y0 y1 y2 y3 y4 y5 y6 y7) (journal_Read.j3 (k + 1) y0 y1 y2 y3 y4 y5 y6 y7)) ∧ (∀ y0 y1 y2 y3 y4 y5 y6 y7 y8 y9 y10 y11 y12 y13 y14, LeO (journal_Read.j1 k y0 y1 y2 y3 y4 y5 y6 y7 y8 y9 y10 y11 y12 y13 y14) (journal_Read.j1 (k + 1) y0 y1 y2 y3 y4 y5 y6 y7 y8 y9 y10 y11 y12 y13 y14)) ∧ (∀ y0 y1 y2 y3 y4 y5 y6 y7 y8 y9 y10 y11 y12 y13 y14, LeO (journal_Read.j2 k y0 y1 y2 y3 y4 y5 y6 y7 y8 y9 y10 y11 y12 y13 y14) (journal_Read.j2 (k + 1) y0 y1 y2 y3 y4 y5 y6 y7 y8 y9 y10 y11 y12 y13 y14))
 | 0 => ⟨fun _ _ _ r h => by simp [journal_Read.j4] at h, fun _ _ _ _ _ _ _ _ r h => by simp [journal_Read.l0] at h, fun _ _ _ _ _ _ _ _ r h => by simp [journal_Read.j3] at h, fun _ _ _ _ _ _ _ _ _ _ _ _ _ _ _ r h => by simp [journal_Read.j1] at h, fun _ _ _ _ _ _ _ _ _ _ _ _ _ _ _ r h => by simp [journal_Read.j2] at h⟩
 | k + 1 => by
  obtain ⟨ih0, ih1, ih2, ih3, ih4⟩ := journal_Read.mono_l k
  refine ⟨?_, ?_, ?_, ?_, ?_⟩
  ·intro y0 y1 y2
   unfold journal_Read.j4
   repeat' first
   | (with_reducible exact LeO.refl _)
   | (with_reducible exact LeO.none _)
   | (with_reducible refine LeO.ite ?_ ?_)
   | (with_reducible refine LeO.bind ?_ (fun _ => ?_))
   | exact LeO.none _
   | refine LeO.ite ?_ ?_
   | refine LeO.bind ?_ (fun _ => ?_)
  ·intro y0 y1 y2 y3 y4 y5 y6 y7
   unfold journal_Read.l0
   repeat' first
   | (with_reducible exact ih0 _ _ _)
   | (with_reducible exact ih2 _ _ _ _ _ _ _ _)
   | (with_reducible exact ih3 _ _ _ _ _ _ _ _ _ _ _ _ _ _ _)
   | (with_reducible exact LeO.refl _)
   | (with_reducible exact LeO.none _)
   | (with_reducible refine LeO.ite ?_ ?_)
   | (with_reducible refine LeO.bind ?_ (fun _ => ?_))
   | exact ih0 _ _ _
   | exact ih2 _ _ _ _ _ _ _ _
   | exact ih3 _ _ _ _ _ _ _ _ _ _ _ _ _ _ _
   | exact LeO.none _
   | refine LeO.ite ?_ ?_
   | refine LeO.bind ?_ (fun _ => ?_)
  ·intro y0 y1 y2 y3 y4 y5 y6 y7
   unfold journal_Read.j3
   repeat' first
   | (with_reducible exact ih1 _ _ _ _ _ _ _ _)
   | (with_reducible exact LeO.refl _)
   | (with_reducible exact LeO.none _)
   | (with_reducible refine LeO.ite ?_ ?_)
   | (with_reducible refine LeO.bind ?_ (fun _ => ?_))
   | exact ih1 _ _ _ _ _ _ _ _
   | exact LeO.none _
   | refine LeO.ite ?_ ?_
   | refine LeO.bind ?_ (fun _ => ?_)
  ·intro y0 y1 y2 y3 y4 y5 y6 y7 y8 y9 y10 y11 y12 y13 y14
   unfold journal_Read.j1
   repeat' first
   | (with_reducible exact ih4 _ _ _ _ _ _ _ _ _ _ _ _ _ _ _)
   | (with_reducible exact LeO.refl _)
   | (with_reducible exact LeO.none _)
   | (with_reducible refine LeO.ite ?_ ?_)
   | (with_reducible refine LeO.bind ?_ (fun _ => ?_))
   | exact ih4 _ _ _ _ _ _ _ _ _ _ _ _ _ _ _
   | exact LeO.none _
   | refine LeO.ite ?_ ?_
   | refine LeO.bind ?_ (fun _ => ?_)
  ·intro y0 y1 y2 y3 y4 y5 y6 y7 y8 y9 y10 y11 y12 y13 y14
   unfold journal_Read.j2
   repeat' first
   | (with_reducible exact ih0 _ _ _)
   | (with_reducible exact ih2 _ _ _ _ _ _ _ _)
   | (with_reducible exact journal_Log_with.mono _ _ _ _ _ _)
   | (with_reducible exact LeO.refl _)
   | (with_reducible exact LeO.none _)
   | (with_reducible refine LeO.ite ?_ ?_)
   | (with_reducible refine LeO.bind ?_ (fun _ => ?_))
   | exact ih0 _ _ _
   | exact ih2 _ _ _ _ _ _ _ _
   | exact journal_Log_with.mono _ _ _ _ _ _
   | exact LeO.none _
   | refine LeO.ite ?_ ?_
   | refine LeO.bind ?_ (fun _ => ?_)
theorem journal_Read.mono : ∀ a0 k, LeO (journal_Read.f k a0) (journal_Read.f (k + 1) a0) := by
 intro a0 k
 obtain ⟨ih0, ih1, ih2, ih3, ih4⟩ := journal_Read.mono_l k
 unfold journal_Read.f
 repeat' first
   | (with_reducible exact ih0 _ _ _)
   | (with_reducible exact ih1 _ _ _ _ _ _ _ _)
   | (with_reducible exact ih2 _ _ _ _ _ _ _ _)
   | (with_reducible exact ih3 _ _ _ _ _ _ _ _ _ _ _ _ _ _ _)
   | (with_reducible exact ih4 _ _ _ _ _ _ _ _ _ _ _ _ _ _ _)
   | (with_reducible exact journal_Log_with.mono _ _ _ _ _ _)
   | (with_reducible exact step_Scan.mono _ _)
   | (with_reducible exact LeO.refl _)
   | (with_reducible exact LeO.none _)
   | (with_reducible refine LeO.ite ?_ ?_)
   | (with_reducible refine LeO.bind ?_ (fun _ => ?_))
   | exact ih0 _ _ _
   | exact ih1 _ _ _ _ _ _ _ _
   | exact ih2 _ _ _ _ _ _ _ _
   | exact ih3 _ _ _ _ _ _ _ _ _ _ _ _ _ _ _
   | exact ih4 _ _ _ _ _ _ _ _ _ _ _ _ _ _ _
   | exact journal_Log_with.mono _ _ _ _ _ _
   | exact step_Scan.mono _ _
   | exact LeO.none _
   | refine LeO.ite ?_ ?_
   | refine LeO.bind ?_ (fun _ => ?_)
def journal_Read.T10 : Bool × List (List Nat × List Nat) := (true, [([], []), ([], []), ([1], [1]), ([], []), ([], []), ([], []), ([3, 4, 5], [3, 4, 5]), ([2, 6], [2, 6]), ([0, 7], [0, 7]), ([8], [8]), ([9], [9]), ([9], [9]), ([10, 8, 0, 1, 2, 3, 4, 5, 6, 7, 8, 9, 10], [10])])
def journal_Read.B10 : List Nat := [0, 0, 2, 0, 0, 0, 56, 126, 255, 511, 1023, 1023, 2047]
theorem journal_Read.tab10 : rtab .any (opsOf Tryd.f44 10) = journal_Read.T10 := by kernel_rfl
theorem journal_Read.bits10 : waitsOk journal_Read.T10.2 journal_Read.B10 = true := by kernel_rfl
set_option maxHeartbeats 8000000 in
set_option maxRecDepth 100000 in
theorem journal_Read.calls (k : Nat) (a0 : ByteArray) (r1 : Int) (r2 : List (S44)) (r3 : ByteArray) (r4 : Int) (w : World) (h : journal_Read.f k a0 = some (r1, r2, r3, r4)) (HT : Tabs w) :
  Calls Tryd.prog 44 #[.string a0] w fun e w' => ∃ v1_ : Value, e = .returned (.tuple #[.agg #[.int .u64 r1, v1_, .string r3], .int .i64 r4]) ∧ Kd.N k44 44 w' w.heap.size (fun k_ => (w.heap.size ≤ k_)) v1_ r2 ∧ Below w.heap.size w w' := by
 have hu66 := Tryd.underlying66
 have hu24 := Tryd.underlying24
 have hu44 := Tryd.underlying44
 have HB := Ax.mk (Below.refl w.heap.size w)
 have H : ((step_Scan.f k a0).bind fun bt224 => (journal_Read.l0 k 0 bt224.1 bt224.1 (bt224.1.length : Int) 0 0 ([] : List (S44)) (⟨#[]⟩ : ByteArray))) = some (r1, r2, r3, r4) := h
 clear h
 replace H := Option.bind_eq_some_iff.mp H
 obtain ⟨⟨t224, t225⟩, A20, H⟩ := H
 replace H : (journal_Read.l0 k 0 t224 t224 (t224.length : Int) 0 0 ([] : List (S44)) (⟨#[]⟩ : ByteArray)) = some (r1, r2, r3, r4) := H
 have A2 := Ax.mk A20
 clear A20
 have HC3 := Ax.mk H
 clear H
 go_enter Tryd.func44, Tryd.ntmps44
 go_upto_block 0 with (first | ((with_reducible refine gate_dst (N := 2) rfl ?_); refine box_event ?hg (N := 2) ?hd (cs := #[.int .u64 0, .slice none 0 0, .string (⟨#[]⟩ : ByteArray)]) (t := 66) ?hr ?_; (case hd => rfl); (case hg => rfl); (case hr => first | (go_simp; done) | (go_simp; rfl)); intro gb222 hg w4 hbox hb; have n0_ := Ax.mk (bP bA hb); have n1_ := Ax.mk (hbox); have n2_ := Ax.mk ((ge_new hg : w.heap.size ≤ gb222)); have n3_ := n2_; clear HB; have HB := n0_; have BK222 := n1_; have GW222 := n2_; have GE222 := n3_; clear n0_ n1_ n2_ n3_; clear hb hbox hg) | ((with_reducible refine gate_dst (N := 4) rfl ?_); refine box_event ?hg (N := 4) ?hd (cs := #[.int .u64 0, .slice none 0 0, .string (⟨#[]⟩ : ByteArray)]) (t := 66) ?hr ?_; (case hd => rfl); (case hg => rfl); (case hr => first | (go_simp; done) | (go_simp; rfl)); intro gb223 hg w5 hbox hb; have n0_ := Ax.mk (bB (bT BK222.out) hb); have n1_ := Ax.mk (bP bA hb); have n2_ := Ax.mk (hbox); have n3_ := Ax.mk ((ge_new hg : w.heap.size ≤ gb223)); have n4_ := n3_; have n5_ := Ax.mk ((ne_lt hg BK222.out : gb222 ≠ gb223)); have n6_ := Ax.mk ((ne_gt hg BK222.out : gb223 ≠ gb222)); clear BK222; clear HB; have BK222 := n0_; have HB := n1_; have BK223 := n2_; have GW223 := n3_; have GE223 := n4_; have NB222_223 := n5_; have NB223_222 := n6_; clear n0_ n1_ n2_ n3_ n4_ n5_ n6_; clear hb hbox hg) | ((with_reducible refine gate_callee (f := 29) rfl ?_); refine goesL_ (some 13) rfl rfl Tryd.func29 (by kernel_rfl) rfl #[.string a0] rfl (by (try simp only [List.map_toArray, List.map_cons, List.map_nil]); first | done | rfl | (simp only [List.length_drop, List.length_take]; rfl) | (rw [wrap_sum2 (by assumption)]; rfl)) ?_; (with_reducible refine (step_Scan.calls k a0 t224 t225 _ A2.out (HT.below bA)).mono ?_); rintro e w6 ⟨v226, rfl, ho0, hb⟩; refine ⟨_, rfl, ?_⟩; have n0_ := Ax.mk (Kd.R_lower (Kd.R_newM (M := fun k_ => (w.heap.size ≤ k_)) ho0 (bS bA) (fun k_ h_ => h_)) (bS bA)); have n1_ := Ax.mk (bB (bT BK222.out) hb); have n2_ := Ax.mk (bB (bT BK223.out) hb); have n3_ := Ax.mk (bP bA hb); clear BK222; clear BK223; clear HB; have HO227 := n0_; have BK222 := n1_; have BK223 := n2_; have HB := n3_; clear n0_ n1_ n2_ n3_; (try clear hb); (try clear hb2); (try clear hk); (try clear hi); (try clear ho0); obtain ⟨Ao7, co7, eo7⟩ := Kd.R_slice HO227.out; subst eo7))
 (try simp only [Act.put, sI, sZ, sS])
 go_cut [] (fun wc => ∃ (kq : Nat) (x224000_2 : Int) (x224001_2 : List (S44)) (x224002_2 : ByteArray) (u224001 : Value), Ax (journal_Read.j4 kq x224000_2 x224001_2 x224002_2 = some (r1, r2, r3, r4)) ∧ Ax (kq ≤ k) ∧ Ax (Kd.N k44 44 wc w.heap.size (fun k_ => (w.heap.size ≤ k_) ∧ k_ ≠ gb222 ∧ k_ ≠ gb223) u224001 x224001_2) ∧ Ax (wc.heap[gb222]? = some (.cells #[.int .u64 0, (.slice none 0 0), .string (⟨#[]⟩ : ByteArray)] 66 (0, 0))) ∧ Ax (wc.heap[gb223]? = some (.cells #[.int .u64 x224000_2, u224001, .string x224002_2] 66 (0, 0))) ∧ Ax (Below w.heap.size w wc))
 case first =>
  have H := HC3.out
  clear HC3
  have H' := Ax.mk H
  clear H
  go_wp2
  go_loopg [5, 18] k (fun kq v5 v18 w' => ∃ (x5_1 : Int) (x18_1 : Int) (x224000_1 : Int) (x224001_1 : List (S44)) (x224002_1 : ByteArray) (u224001 : Value), v5 = .int .i64 x5_1 ∧ v18 = .int .i64 x18_1 ∧ Ax (journal_Read.l0 kq x5_1 t224 t224 (t224.length : Int) x18_1 x224000_1 x224001_1 x224002_1 = some (r1, r2, r3, r4)) ∧ Ax (kq ≤ k) ∧ Ax (Kd.R k24 24 w' w.heap.size (fun k_ => (w.heap.size ≤ k_)) (.slice Ao7 t224.length co7) t224) ∧ Ax (Kd.R k24 24 w' w.heap.size (fun k_ => (w.heap.size ≤ k_)) (.slice Ao7 t224.length co7) t224) ∧ Ax (Kd.N k44 44 w' w.heap.size (fun k_ => (w.heap.size ≤ k_) ∧ some k_ ≠ ((.slice Ao7 t224.length co7) : Value).ownBlock ∧ some k_ ≠ ((.slice Ao7 t224.length co7) : Value).ownBlock ∧ k_ ≠ gb222 ∧ k_ ≠ gb223) u224001 x224001_1) ∧ Ax (w'.heap[gb222]? = some (.cells #[.int .u64 0, (.slice none 0 0), .string (⟨#[]⟩ : ByteArray)] 66 (0, 0))) ∧ Ax (w'.heap[gb223]? = some (.cells #[.int .u64 x224000_1, u224001, .string x224002_1] 66 (0, 0))) ∧ Ax (Below w.heap.size w w'))
  case atStart => exact ⟨(0), (0), (0), (([] : List (S44))), ((⟨#[]⟩ : ByteArray)), (.slice none 0 0), (by first | rfl | (simp; done) | (simp [*]; done)), (by first | rfl | (simp; done) | (simp [*]; done)), H', ⟨Nat.le_refl _⟩, ⟨by apply Kd.R_to; exact Kd.R_mono HO227.out (fun _ hk => hk.1)⟩, ⟨by apply Kd.R_to; exact Kd.R_mono HO227.out (fun _ hk => hk.1)⟩, ⟨by first | exact Kd.S_nil _ _ _ _ _ | exact Kd.N_nil _ _ _ _ _ | exact Kd.V_nil _ _ _ _ _ | exact Kd.Q_nil _ _ _ _ _ | exact Kd.R_nil _ _ _ _ _⟩, ⟨by refine bT ?_; exact BK222.out⟩, ⟨by refine bT ?_; exact BK223.out⟩, ⟨bA⟩⟩
  case round =>
   clear H'
   try clear c2
   try clear p2
   try clear c4
   obtain ⟨x5_1, x18_1, x224000_1, x224001_1, x224002_1, u224001, rfl, rfl, HA, HK1, HO_6, HO_16, HO_224001, BK222, BK223, HB⟩ := hrel
   cases gk with
   | zero => exact absurd HA.out (by simp [journal_Read.l0])
   | succ k1 =>
    have H := HA.out
    clear HA
    simp only [journal_Read.l0] at H
    by_cases c8 : x18_1 < (t224.length : Int)
    ·rw [if_pos c8] at H
     have c8b0 : decide (x18_1 < (t224.length : Int)) = true := decide_eq_true c8
     clear c8
     (first | rw [c8b0] | (simp only [i64_w, i32_w]; rw [c8b0]) | skip)
     have HC9 := Ax.mk H
     clear H
     go_upto_block 1 with (fail)
     go_cut [5] (fun v5 wc => ∃ (kq : Nat) (x5_8 : Int) (x224000_8 : Int) (x224001_8 : List (S44)) (x224002_8 : ByteArray) (u224001 : Value), v5 = .int .i64 x5_8 ∧ Ax (journal_Read.j3 kq x5_8 t224 t224 (t224.length : Int) x18_1 x224000_8 x224001_8 x224002_8 = some (r1, r2, r3, r4)) ∧ Ax (kq ≤ k1) ∧ Ax (Kd.R k24 24 wc w.heap.size (fun k_ => (w.heap.size ≤ k_)) (.slice Ao7 t224.length co7) t224) ∧ Ax (Kd.R k24 24 wc w.heap.size (fun k_ => (w.heap.size ≤ k_)) (.slice Ao7 t224.length co7) t224) ∧ Ax (Kd.N k44 44 wc w.heap.size (fun k_ => (w.heap.size ≤ k_) ∧ some k_ ≠ ((.slice Ao7 t224.length co7) : Value).ownBlock ∧ some k_ ≠ ((.slice Ao7 t224.length co7) : Value).ownBlock ∧ k_ ≠ gb222 ∧ k_ ≠ gb223) u224001 x224001_8) ∧ Ax (wc.heap[gb222]? = some (.cells #[.int .u64 0, (.slice none 0 0), .string (⟨#[]⟩ : ByteArray)] 66 (0, 0))) ∧ Ax (wc.heap[gb223]? = some (.cells #[.int .u64 x224000_8, u224001, .string x224002_8] 66 (0, 0))) ∧ Ax (Below w.heap.size w wc))
     case first =>
      have H := HC9.out
      clear HC9
      by_cases c10 : 0 ≤ x18_1
      ·rw [if_pos c10] at H
       have c10b0 : decide (0 ≤ x18_1) = true := decide_eq_true c10
       clear c10
       (first | rw [c10b0] | (simp only [i64_w, i32_w]; rw [c10b0]) | skip)
       by_cases c11 : x18_1 < (t224.length : Int)
       ·rw [if_pos c11] at H
        have c11b0 : decide (x18_1 < (t224.length : Int)) = true := decide_eq_true c11
        clear c11
        by_cases c12 : ((rd_T24 t224 x18_1).f0) = 8
        ·rw [if_pos c12] at H
         have c12b0 : (((rd_T24 t224 x18_1).f0) == 8) = true := beq_iff_eq.mpr c12
         have c12b1 : (((rd_T24 t224 x18_1).f0) != 8) = false := bne_eq_false_iff_eq.mpr c12
         clear c12
         have HC13 := Ax.mk H
         clear H
         have p228 : 0 ≤ (x18_1 : Int) := ofD
         have q228 : x18_1 < (t224.length : Int) := ofD
         obtain ⟨ad228, e228, hx228_0, hx228_1, hx228_2, hx228_3, hx228_4⟩ := at_T24 (Kd.R_reads' HO_16.out).2.2 x18_1 p228 q228
         cases e228
         replace p228 := eq_true p228
         replace q228 := eq_true q228
         go_upto_region 8 with (first | ((with_reducible refine gate_dst (N := 9) rfl ?_); refine box_event ?hg (N := 9) ?hd (cs := #[.int .i64 0, .int .i64 0, .int .i64 0, .int .u64 0, .string (⟨#[]⟩ : ByteArray)]) (t := 24) ?hr ?_; (case hd => rfl); (case hg => rfl); (case hr => first | (go_simp; done) | (go_simp; rfl)); intro gb229 hg w14 hbox hb; have n0_ := Ax.mk (Kd.R_below (Kd.R_elderB (by exact Kd.R_to HO_6.out) gb229 (Nat.le_of_eq hg.symm)) hb); have n1_ := Ax.mk (Kd.R_below (Kd.R_elderB (by exact Kd.R_to HO_16.out) gb229 (Nat.le_of_eq hg.symm)) hb); have n2_ := Ax.mk (Kd.N_below (Kd.N_elderB (by exact Kd.N_to HO_224001.out) gb229 (Nat.le_of_eq hg.symm)) hb); have n3_ := Ax.mk (bB (bT BK222.out) hb); have n4_ := Ax.mk (bB (bT BK223.out) hb); have n5_ := Ax.mk (bP bA hb); have n6_ := Ax.mk (hbox); have n7_ := Ax.mk ((ge_new hg : w.heap.size ≤ gb229)); have n8_ := n7_; have n9_ := Ax.mk ((ne_lt hg BK222.out : gb222 ≠ gb229)); have n10_ := Ax.mk ((ne_gt hg BK222.out : gb229 ≠ gb222)); have n11_ := Ax.mk ((ne_lt hg BK223.out : gb223 ≠ gb229)); have n12_ := Ax.mk ((ne_gt hg BK223.out : gb229 ≠ gb223)); clear HO_6; clear HO_16; clear HO_224001; clear BK222; clear BK223; clear HB; have HO_6 := n0_; have HO_16 := n1_; have HO_224001 := n2_; have BK222 := n3_; have BK223 := n4_; have HB := n5_; have BK229 := n6_; have GW229 := n7_; have GE229 := n8_; have NB222_229 := n9_; have NB229_222 := n10_; have NB223_229 := n11_; have NB229_223 := n12_; clear n0_ n1_ n2_ n3_ n4_ n5_ n6_ n7_ n8_ n9_ n10_ n11_ n12_; clear hb hbox hg; have hnb15 := NB229_222.out; have hnc15 := NB222_229.out; have hnb16 := NB229_223.out; have hnc16 := NB223_229.out; have hcz17_0 : w14.cell? ⟨gb229, 0, none⟩ = some (.int .i64 0) := (bC BK229.out 0).trans rfl; have hcz17_1 : w14.cell? ⟨gb229, 1, none⟩ = some (.int .i64 0) := (bC BK229.out 1).trans rfl; have hcz17_2 : w14.cell? ⟨gb229, 2, none⟩ = some (.int .i64 0) := (bC BK229.out 2).trans rfl; have hcz17_3 : w14.cell? ⟨gb229, 3, none⟩ = some (.int .u64 0) := (bC BK229.out 3).trans rfl; have hcz17_4 : w14.cell? ⟨gb229, 4, none⟩ = some (.string (⟨#[]⟩ : ByteArray)) := (bC BK229.out 4).trans rfl; have hfz17_0 := bF BK229.out 0; have hfz17_1 := bF BK229.out 1; have hfz17_2 := bF BK229.out 2; have hfz17_3 := bF BK229.out 3; have hfz17_4 := bF BK229.out 4))
         (try simp only [Act.put, sI, sZ, sS])
         go_cut [10] (fun v10 wc => ∃ (kq : Nat) (x10_12 : Bool), v10 = .bool x10_12 ∧ Ax (journal_Read.j1 kq x5_1 t224 x18_1 x10_12 t224 (t224.length : Int) x18_1 x224000_1 x224001_1 x224002_1 ((rd_T24 t224 x18_1).f0) ((rd_T24 t224 x18_1).f1) ((rd_T24 t224 x18_1).f2) ((rd_T24 t224 x18_1).f3) ((rd_T24 t224 x18_1).f4) = some (r1, r2, r3, r4)) ∧ Ax (kq ≤ k1) ∧ Ax (Kd.R k24 24 wc w.heap.size (fun k_ => (w.heap.size ≤ k_) ∧ k_ ≠ gb229) (.slice (some ad228) t224.length co7) t224) ∧ Ax (Kd.R k24 24 wc w.heap.size (fun k_ => (w.heap.size ≤ k_) ∧ k_ ≠ gb229) (.slice (some ad228) t224.length co7) t224) ∧ Ax (Kd.N k44 44 wc w.heap.size (fun k_ => (w.heap.size ≤ k_) ∧ some k_ ≠ ((.slice (some ad228) t224.length co7) : Value).ownBlock ∧ some k_ ≠ ((.slice (some ad228) t224.length co7) : Value).ownBlock ∧ k_ ≠ gb222 ∧ k_ ≠ gb223 ∧ k_ ≠ gb229) u224001 x224001_1) ∧ Ax (wc.heap[gb222]? = some (.cells #[.int .u64 0, (.slice none 0 0), .string (⟨#[]⟩ : ByteArray)] 66 (0, 0))) ∧ Ax (wc.heap[gb223]? = some (.cells #[.int .u64 x224000_1, u224001, .string x224002_1] 66 (0, 0))) ∧ Ax (wc.heap[gb229]? = some (.cells #[.int .i64 ((rd_T24 t224 x18_1).f0), .int .i64 ((rd_T24 t224 x18_1).f1), .int .i64 ((rd_T24 t224 x18_1).f2), .int .u64 ((rd_T24 t224 x18_1).f3), .string ((rd_T24 t224 x18_1).f4)] 24 (0, 0))) ∧ Ax (Below w.heap.size w wc))
         case first =>
          have H := HC13.out
          clear HC13
          by_cases c18 : (x224001_1.length : Int) = 0
          ·rw [if_pos c18] at H
           have c18b0 : ((x224001_1.length : Int) == 0) = true := beq_iff_eq.mpr c18
           have c18b1 : ((x224001_1.length : Int) != 0) = false := bne_eq_false_iff_eq.mpr c18
           clear c18
           (first | rw [c18b0] | (simp only [i64_w, i32_w]; rw [c18b0]) | skip)
           have H' := Ax.mk H
           clear H
           have hnb19 := NB223_222.out
           have hnc19 := NB222_223.out
           have hnb20 := NB223_229.out
           have hnc20 := NB229_223.out
           have hcz21_0 : w14.cell? ⟨gb223, 0, none⟩ = some (.int .u64 x224000_1) := (bC BK223.out 0).trans rfl
           have hcz21_1 : w14.cell? ⟨gb223, 1, none⟩ = some (u224001) := (bC BK223.out 1).trans rfl
           have hcz21_2 : w14.cell? ⟨gb223, 2, none⟩ = some (.string x224002_1) := (bC BK223.out 2).trans rfl
           have hfz21_0 := bF BK223.out 0
           have hfz21_1 := bF BK223.out 1
           have hfz21_2 := bF BK223.out 2
           obtain ⟨Ao22, co22, eo22⟩ := Kd.N_slice HO_224001.out
           subst eo22
           go_wp2
           go_meet
           case rel => exact ⟨_, (true), (by first | rfl | (simp; done) | (simp [*]; done)), H', ⟨by have := HK1.out; first | omega | exact Nat.le_refl _⟩, ⟨by apply Kd.R_to; exact Kd.R_mono (Kd.R_far (p := ⟨gb229, 4, none⟩) (Kd.R_far (p := ⟨gb229, 3, none⟩) (Kd.R_far (p := ⟨gb229, 2, none⟩) (Kd.R_far (p := ⟨gb229, 1, none⟩) (Kd.R_far (p := ⟨gb229, 0, none⟩) (Kd.R_mono HO_6.out (fun k_ hk => (⟨hk, hk.2⟩ : _ ∧ k_ ≠ gb229))) (fun _ hk => hk.2) (.int .i64 ((rd_T24 t224 x18_1).f0))) (fun _ hk => hk.2) (.int .i64 ((rd_T24 t224 x18_1).f1))) (fun _ hk => hk.2) (.int .i64 ((rd_T24 t224 x18_1).f2))) (fun _ hk => hk.2) (.int .u64 ((rd_T24 t224 x18_1).f3))) (fun _ hk => hk.2) (.string ((rd_T24 t224 x18_1).f4))) (fun _ hk => ⟨hk.1.1, hk.1.2⟩)⟩, ⟨by apply Kd.R_to; exact Kd.R_mono (Kd.R_far (p := ⟨gb229, 4, none⟩) (Kd.R_far (p := ⟨gb229, 3, none⟩) (Kd.R_far (p := ⟨gb229, 2, none⟩) (Kd.R_far (p := ⟨gb229, 1, none⟩) (Kd.R_far (p := ⟨gb229, 0, none⟩) (Kd.R_mono HO_16.out (fun k_ hk => (⟨hk, hk.2⟩ : _ ∧ k_ ≠ gb229))) (fun _ hk => hk.2) (.int .i64 ((rd_T24 t224 x18_1).f0))) (fun _ hk => hk.2) (.int .i64 ((rd_T24 t224 x18_1).f1))) (fun _ hk => hk.2) (.int .i64 ((rd_T24 t224 x18_1).f2))) (fun _ hk => hk.2) (.int .u64 ((rd_T24 t224 x18_1).f3))) (fun _ hk => hk.2) (.string ((rd_T24 t224 x18_1).f4))) (fun _ hk => ⟨hk.1.1, hk.1.2⟩)⟩, ⟨by apply Kd.N_to; exact Kd.N_mono (Kd.N_far (p := ⟨gb229, 4, none⟩) (Kd.N_far (p := ⟨gb229, 3, none⟩) (Kd.N_far (p := ⟨gb229, 2, none⟩) (Kd.N_far (p := ⟨gb229, 1, none⟩) (Kd.N_far (p := ⟨gb229, 0, none⟩) (Kd.N_mono HO_224001.out (fun k_ hk => (⟨hk, hk.2⟩ : _ ∧ k_ ≠ gb229))) (fun _ hk => hk.2) (.int .i64 ((rd_T24 t224 x18_1).f0))) (fun _ hk => hk.2) (.int .i64 ((rd_T24 t224 x18_1).f1))) (fun _ hk => hk.2) (.int .i64 ((rd_T24 t224 x18_1).f2))) (fun _ hk => hk.2) (.int .u64 ((rd_T24 t224 x18_1).f3))) (fun _ hk => hk.2) (.string ((rd_T24 t224 x18_1).f4))) (fun _ hk => ⟨hk.1.1.1, ⟨hk.1.1.2.1, ⟨hk.1.1.2.2.1, ⟨hk.1.1.2.2.2.1, ⟨hk.1.1.2.2.2.2, hk.1.2⟩⟩⟩⟩⟩)⟩, ⟨by refine bT ?_; refine bR ?_ NB222_229.out _; refine bT ?_; refine bR ?_ NB222_229.out _; refine bT ?_; refine bR ?_ NB222_229.out _; refine bT ?_; refine bR ?_ NB222_229.out _; refine bT ?_; refine bR ?_ NB222_229.out _; refine bT ?_; exact BK222.out⟩, ⟨by refine bT ?_; refine bR ?_ NB223_229.out _; refine bT ?_; refine bR ?_ NB223_229.out _; refine bT ?_; refine bR ?_ NB223_229.out _; refine bT ?_; refine bR ?_ NB223_229.out _; refine bT ?_; refine bR ?_ NB223_229.out _; refine bT ?_; exact BK223.out⟩, ⟨by refine bT ?_; refine bU (cs := #[.int .i64 ((rd_T24 t224 x18_1).f0), .int .i64 ((rd_T24 t224 x18_1).f1), .int .i64 ((rd_T24 t224 x18_1).f2), .int .u64 ((rd_T24 t224 x18_1).f3), .string (⟨#[]⟩ : ByteArray)]) ?_ 4 _ rfl; refine bT ?_; refine bU (cs := #[.int .i64 ((rd_T24 t224 x18_1).f0), .int .i64 ((rd_T24 t224 x18_1).f1), .int .i64 ((rd_T24 t224 x18_1).f2), .int .u64 0, .string (⟨#[]⟩ : ByteArray)]) ?_ 3 _ rfl; refine bT ?_; refine bU (cs := #[.int .i64 ((rd_T24 t224 x18_1).f0), .int .i64 ((rd_T24 t224 x18_1).f1), .int .i64 0, .int .u64 0, .string (⟨#[]⟩ : ByteArray)]) ?_ 2 _ rfl; refine bT ?_; refine bU (cs := #[.int .i64 ((rd_T24 t224 x18_1).f0), .int .i64 0, .int .i64 0, .int .u64 0, .string (⟨#[]⟩ : ByteArray)]) ?_ 1 _ rfl; refine bT ?_; refine bU (cs := #[.int .i64 0, .int .i64 0, .int .i64 0, .int .u64 0, .string (⟨#[]⟩ : ByteArray)]) ?_ 0 _ rfl; refine bT ?_; exact BK229.out⟩, ⟨bA⟩⟩
          ·rw [if_neg c18] at H
           have c18b0 : ((x224001_1.length : Int) == 0) = false := beq_eq_false_iff_ne.mpr c18
           have c18b1 : ((x224001_1.length : Int) != 0) = true := bne_iff_ne.mpr c18
           have c18b2 : ¬ (x224001_1 = []) := fun h_ => c18 (by rw [h_]; rfl)
           (first | rw [c18b0] | (simp only [i64_w, i32_w]; rw [c18b0]) | skip)
           by_cases c23 : x224000_1 < 18446744073709551615
           ·rw [if_pos c23] at H
            have c23b0 : decide (x224000_1 < 18446744073709551615) = true := decide_eq_true c23
            clear c23
            have H' := Ax.mk H
            clear H
            have hnb24 := NB223_222.out
            have hnc24 := NB222_223.out
            have hnb25 := NB223_229.out
            have hnc25 := NB229_223.out
            have hcz26_0 : w14.cell? ⟨gb223, 0, none⟩ = some (.int .u64 x224000_1) := (bC BK223.out 0).trans rfl
            have hcz26_1 : w14.cell? ⟨gb223, 1, none⟩ = some (u224001) := (bC BK223.out 1).trans rfl
            have hcz26_2 : w14.cell? ⟨gb223, 2, none⟩ = some (.string x224002_1) := (bC BK223.out 2).trans rfl
            have hfz26_0 := bF BK223.out 0
            have hfz26_1 := bF BK223.out 1
            have hfz26_2 := bF BK223.out 2
            obtain ⟨Ao27, co27, eo27⟩ := Kd.N_slice HO_224001.out
            subst eo27
            have hnb28 := NB229_222.out
            have hnc28 := NB222_229.out
            have hcz29_0 : w14.cell? ⟨gb229, 0, none⟩ = some (.int .i64 0) := (bC BK229.out 0).trans rfl
            have hcz29_1 : w14.cell? ⟨gb229, 1, none⟩ = some (.int .i64 0) := (bC BK229.out 1).trans rfl
            have hcz29_2 : w14.cell? ⟨gb229, 2, none⟩ = some (.int .i64 0) := (bC BK229.out 2).trans rfl
            have hcz29_3 : w14.cell? ⟨gb229, 3, none⟩ = some (.int .u64 0) := (bC BK229.out 3).trans rfl
            have hcz29_4 : w14.cell? ⟨gb229, 4, none⟩ = some (.string (⟨#[]⟩ : ByteArray)) := (bC BK229.out 4).trans rfl
            have hfz29_0 := bF BK229.out 0
            have hfz29_1 := bF BK229.out 1
            have hfz29_2 := bF BK229.out 2
            have hfz29_3 := bF BK229.out 3
            have hfz29_4 := bF BK229.out 4
            go_wp2
            go_meet
            case rel => exact ⟨_, ((((rd_T24 t224 x18_1).f3) == (IntKind.u64.wrap (x224000_1 + 1)))), (by first | rfl | (simp; done) | (simp [*]; done)), H', ⟨by have := HK1.out; first | omega | exact Nat.le_refl _⟩, ⟨by apply Kd.R_to; exact Kd.R_mono (Kd.R_far (p := ⟨gb229, 4, none⟩) (Kd.R_far (p := ⟨gb229, 3, none⟩) (Kd.R_far (p := ⟨gb229, 2, none⟩) (Kd.R_far (p := ⟨gb229, 1, none⟩) (Kd.R_far (p := ⟨gb229, 0, none⟩) (Kd.R_mono HO_6.out (fun k_ hk => (⟨hk, hk.2⟩ : _ ∧ k_ ≠ gb229))) (fun _ hk => hk.2) (.int .i64 ((rd_T24 t224 x18_1).f0))) (fun _ hk => hk.2) (.int .i64 ((rd_T24 t224 x18_1).f1))) (fun _ hk => hk.2) (.int .i64 ((rd_T24 t224 x18_1).f2))) (fun _ hk => hk.2) (.int .u64 ((rd_T24 t224 x18_1).f3))) (fun _ hk => hk.2) (.string ((rd_T24 t224 x18_1).f4))) (fun _ hk => ⟨hk.1.1, hk.1.2⟩)⟩, ⟨by apply Kd.R_to; exact Kd.R_mono (Kd.R_far (p := ⟨gb229, 4, none⟩) (Kd.R_far (p := ⟨gb229, 3, none⟩) (Kd.R_far (p := ⟨gb229, 2, none⟩) (Kd.R_far (p := ⟨gb229, 1, none⟩) (Kd.R_far (p := ⟨gb229, 0, none⟩) (Kd.R_mono HO_16.out (fun k_ hk => (⟨hk, hk.2⟩ : _ ∧ k_ ≠ gb229))) (fun _ hk => hk.2) (.int .i64 ((rd_T24 t224 x18_1).f0))) (fun _ hk => hk.2) (.int .i64 ((rd_T24 t224 x18_1).f1))) (fun _ hk => hk.2) (.int .i64 ((rd_T24 t224 x18_1).f2))) (fun _ hk => hk.2) (.int .u64 ((rd_T24 t224 x18_1).f3))) (fun _ hk => hk.2) (.string ((rd_T24 t224 x18_1).f4))) (fun _ hk => ⟨hk.1.1, hk.1.2⟩)⟩, ⟨by apply Kd.N_to; exact Kd.N_mono (Kd.N_far (p := ⟨gb229, 4, none⟩) (Kd.N_far (p := ⟨gb229, 3, none⟩) (Kd.N_far (p := ⟨gb229, 2, none⟩) (Kd.N_far (p := ⟨gb229, 1, none⟩) (Kd.N_far (p := ⟨gb229, 0, none⟩) (Kd.N_mono HO_224001.out (fun k_ hk => (⟨hk, hk.2⟩ : _ ∧ k_ ≠ gb229))) (fun _ hk => hk.2) (.int .i64 ((rd_T24 t224 x18_1).f0))) (fun _ hk => hk.2) (.int .i64 ((rd_T24 t224 x18_1).f1))) (fun _ hk => hk.2) (.int .i64 ((rd_T24 t224 x18_1).f2))) (fun _ hk => hk.2) (.int .u64 ((rd_T24 t224 x18_1).f3))) (fun _ hk => hk.2) (.string ((rd_T24 t224 x18_1).f4))) (fun _ hk => ⟨hk.1.1.1, ⟨hk.1.1.2.1, ⟨hk.1.1.2.2.1, ⟨hk.1.1.2.2.2.1, ⟨hk.1.1.2.2.2.2, hk.1.2⟩⟩⟩⟩⟩)⟩, ⟨by refine bT ?_; refine bR ?_ NB222_229.out _; refine bT ?_; refine bR ?_ NB222_229.out _; refine bT ?_; refine bR ?_ NB222_229.out _; refine bT ?_; refine bR ?_ NB222_229.out _; refine bT ?_; refine bR ?_ NB222_229.out _; refine bT ?_; exact BK222.out⟩, ⟨by refine bT ?_; refine bR ?_ NB223_229.out _; refine bT ?_; refine bR ?_ NB223_229.out _; refine bT ?_; refine bR ?_ NB223_229.out _; refine bT ?_; refine bR ?_ NB223_229.out _; refine bT ?_; refine bR ?_ NB223_229.out _; refine bT ?_; exact BK223.out⟩, ⟨by refine bT ?_; refine bU (cs := #[.int .i64 ((rd_T24 t224 x18_1).f0), .int .i64 ((rd_T24 t224 x18_1).f1), .int .i64 ((rd_T24 t224 x18_1).f2), .int .u64 ((rd_T24 t224 x18_1).f3), .string (⟨#[]⟩ : ByteArray)]) ?_ 4 _ rfl; refine bT ?_; refine bU (cs := #[.int .i64 ((rd_T24 t224 x18_1).f0), .int .i64 ((rd_T24 t224 x18_1).f1), .int .i64 ((rd_T24 t224 x18_1).f2), .int .u64 0, .string (⟨#[]⟩ : ByteArray)]) ?_ 3 _ rfl; refine bT ?_; refine bU (cs := #[.int .i64 ((rd_T24 t224 x18_1).f0), .int .i64 ((rd_T24 t224 x18_1).f1), .int .i64 0, .int .u64 0, .string (⟨#[]⟩ : ByteArray)]) ?_ 2 _ rfl; refine bT ?_; refine bU (cs := #[.int .i64 ((rd_T24 t224 x18_1).f0), .int .i64 0, .int .i64 0, .int .u64 0, .string (⟨#[]⟩ : ByteArray)]) ?_ 1 _ rfl; refine bT ?_; refine bU (cs := #[.int .i64 0, .int .i64 0, .int .i64 0, .int .u64 0, .string (⟨#[]⟩ : ByteArray)]) ?_ 0 _ rfl; refine bT ?_; exact BK229.out⟩, ⟨bA⟩⟩
           ·rw [if_neg c23] at H
            have c23b0 : decide (x224000_1 < 18446744073709551615) = false := decide_eq_false c23
            clear c23
            have H' := Ax.mk H
            clear H
            have hnb30 := NB223_222.out
            have hnc30 := NB222_223.out
            have hnb31 := NB223_229.out
            have hnc31 := NB229_223.out
            have hcz32_0 : w14.cell? ⟨gb223, 0, none⟩ = some (.int .u64 x224000_1) := (bC BK223.out 0).trans rfl
            have hcz32_1 : w14.cell? ⟨gb223, 1, none⟩ = some (u224001) := (bC BK223.out 1).trans rfl
            have hcz32_2 : w14.cell? ⟨gb223, 2, none⟩ = some (.string x224002_1) := (bC BK223.out 2).trans rfl
            have hfz32_0 := bF BK223.out 0
            have hfz32_1 := bF BK223.out 1
            have hfz32_2 := bF BK223.out 2
            obtain ⟨Ao33, co33, eo33⟩ := Kd.N_slice HO_224001.out
            subst eo33
            go_wp2
            go_meet
            case rel => exact ⟨_, (false), (by first | rfl | (simp; done) | (simp [*]; done)), H', ⟨by have := HK1.out; first | omega | exact Nat.le_refl _⟩, ⟨by apply Kd.R_to; exact Kd.R_mono (Kd.R_far (p := ⟨gb229, 4, none⟩) (Kd.R_far (p := ⟨gb229, 3, none⟩) (Kd.R_far (p := ⟨gb229, 2, none⟩) (Kd.R_far (p := ⟨gb229, 1, none⟩) (Kd.R_far (p := ⟨gb229, 0, none⟩) (Kd.R_mono HO_6.out (fun k_ hk => (⟨hk, hk.2⟩ : _ ∧ k_ ≠ gb229))) (fun _ hk => hk.2) (.int .i64 ((rd_T24 t224 x18_1).f0))) (fun _ hk => hk.2) (.int .i64 ((rd_T24 t224 x18_1).f1))) (fun _ hk => hk.2) (.int .i64 ((rd_T24 t224 x18_1).f2))) (fun _ hk => hk.2) (.int .u64 ((rd_T24 t224 x18_1).f3))) (fun _ hk => hk.2) (.string ((rd_T24 t224 x18_1).f4))) (fun _ hk => ⟨hk.1.1, hk.1.2⟩)⟩, ⟨by apply Kd.R_to; exact Kd.R_mono (Kd.R_far (p := ⟨gb229, 4, none⟩) (Kd.R_far (p := ⟨gb229, 3, none⟩) (Kd.R_far (p := ⟨gb229, 2, none⟩) (Kd.R_far (p := ⟨gb229, 1, none⟩) (Kd.R_far (p := ⟨gb229, 0, none⟩) (Kd.R_mono HO_16.out (fun k_ hk => (⟨hk, hk.2⟩ : _ ∧ k_ ≠ gb229))) (fun _ hk => hk.2) (.int .i64 ((rd_T24 t224 x18_1).f0))) (fun _ hk => hk.2) (.int .i64 ((rd_T24 t224 x18_1).f1))) (fun _ hk => hk.2) (.int .i64 ((rd_T24 t224 x18_1).f2))) (fun _ hk => hk.2) (.int .u64 ((rd_T24 t224 x18_1).f3))) (fun _ hk => hk.2) (.string ((rd_T24 t224 x18_1).f4))) (fun _ hk => ⟨hk.1.1, hk.1.2⟩)⟩, ⟨by apply Kd.N_to; exact Kd.N_mono (Kd.N_far (p := ⟨gb229, 4, none⟩) (Kd.N_far (p := ⟨gb229, 3, none⟩) (Kd.N_far (p := ⟨gb229, 2, none⟩) (Kd.N_far (p := ⟨gb229, 1, none⟩) (Kd.N_far (p := ⟨gb229, 0, none⟩) (Kd.N_mono HO_224001.out (fun k_ hk => (⟨hk, hk.2⟩ : _ ∧ k_ ≠ gb229))) (fun _ hk => hk.2) (.int .i64 ((rd_T24 t224 x18_1).f0))) (fun _ hk => hk.2) (.int .i64 ((rd_T24 t224 x18_1).f1))) (fun _ hk => hk.2) (.int .i64 ((rd_T24 t224 x18_1).f2))) (fun _ hk => hk.2) (.int .u64 ((rd_T24 t224 x18_1).f3))) (fun _ hk => hk.2) (.string ((rd_T24 t224 x18_1).f4))) (fun _ hk => ⟨hk.1.1.1, ⟨hk.1.1.2.1, ⟨hk.1.1.2.2.1, ⟨hk.1.1.2.2.2.1, ⟨hk.1.1.2.2.2.2, hk.1.2⟩⟩⟩⟩⟩)⟩, ⟨by refine bT ?_; refine bR ?_ NB222_229.out _; refine bT ?_; refine bR ?_ NB222_229.out _; refine bT ?_; refine bR ?_ NB222_229.out _; refine bT ?_; refine bR ?_ NB222_229.out _; refine bT ?_; refine bR ?_ NB222_229.out _; refine bT ?_; exact BK222.out⟩, ⟨by refine bT ?_; refine bR ?_ NB223_229.out _; refine bT ?_; refine bR ?_ NB223_229.out _; refine bT ?_; refine bR ?_ NB223_229.out _; refine bT ?_; refine bR ?_ NB223_229.out _; refine bT ?_; refine bR ?_ NB223_229.out _; refine bT ?_; exact BK223.out⟩, ⟨by refine bT ?_; refine bU (cs := #[.int .i64 ((rd_T24 t224 x18_1).f0), .int .i64 ((rd_T24 t224 x18_1).f1), .int .i64 ((rd_T24 t224 x18_1).f2), .int .u64 ((rd_T24 t224 x18_1).f3), .string (⟨#[]⟩ : ByteArray)]) ?_ 4 _ rfl; refine bT ?_; refine bU (cs := #[.int .i64 ((rd_T24 t224 x18_1).f0), .int .i64 ((rd_T24 t224 x18_1).f1), .int .i64 ((rd_T24 t224 x18_1).f2), .int .u64 0, .string (⟨#[]⟩ : ByteArray)]) ?_ 3 _ rfl; refine bT ?_; refine bU (cs := #[.int .i64 ((rd_T24 t224 x18_1).f0), .int .i64 ((rd_T24 t224 x18_1).f1), .int .i64 0, .int .u64 0, .string (⟨#[]⟩ : ByteArray)]) ?_ 2 _ rfl; refine bT ?_; refine bU (cs := #[.int .i64 ((rd_T24 t224 x18_1).f0), .int .i64 0, .int .i64 0, .int .u64 0, .string (⟨#[]⟩ : ByteArray)]) ?_ 1 _ rfl; refine bT ?_; refine bU (cs := #[.int .i64 0, .int .i64 0, .int .i64 0, .int .u64 0, .string (⟨#[]⟩ : ByteArray)]) ?_ 0 _ rfl; refine bT ?_; exact BK229.out⟩, ⟨bA⟩⟩
         case rest =>
          clear HC13
          try clear c1
          try clear c2
          try clear p2
          try clear q2
          try clear hx2
          try clear c3
          try clear c4
          try clear c8
          try clear c8b0
          try clear c10
          try clear c10b0
          try clear c11
          try clear c11b0
          try clear c12
          try clear c12b0
          try clear c12b1
          try clear c15
          try clear c16
          try clear c18
          try clear c18b0
          try clear c18b1
          try clear c18b2
          try clear c19
          try clear c20
          try clear p22
          try clear q22
          try clear hx22
          try clear c23
          try clear c23b0
          try clear c24
          try clear c25
          try clear c28
          try clear c29
          try clear c30
          try clear c31
          try clear hcz17_0
          try clear hcz17_1
          try clear hcz17_2
          try clear hcz17_3
          try clear hcz17_4
          try clear hcz21_0
          try clear hcz21_1
          try clear hcz21_2
          try clear hcz26_0
          try clear hcz26_1
          try clear hcz26_2
          try clear hcz29_0
          try clear hcz29_1
          try clear hcz29_2
          try clear hcz29_3
          try clear hcz29_4
          try clear hcz32_0
          try clear hcz32_1
          try clear hcz32_2
          try clear hfz17_0
          try clear hfz17_1
          try clear hfz17_2
          try clear hfz17_3
          try clear hfz17_4
          try clear hfz21_0
          try clear hfz21_1
          try clear hfz21_2
          try clear hfz26_0
          try clear hfz26_1
          try clear hfz26_2
          try clear hfz29_0
          try clear hfz29_1
          try clear hfz29_2
          try clear hfz29_3
          try clear hfz29_4
          try clear hfz32_0
          try clear hfz32_1
          try clear hfz32_2
          try clear hx228_0
          try clear hx228_1
          try clear hx228_2
          try clear hx228_3
          try clear hx228_4
          try clear p2
          try clear p228
          try clear q228
          obtain ⟨kq, x10_12, rfl, HA, HJ12, HO_6, HO_16, HO_224001, BK222, BK223, BK229, HB⟩ := hcut
          cases kq with
          | zero => exact absurd HA.out (by simp [journal_Read.j1])
          | succ kj12 =>
           have H := HA.out
           clear HA
           simp only [journal_Read.j1] at H
           have HC34 := Ax.mk H
           clear H
           go_upto_region 9 with (fail)
           go_cut [54] (fun v54 wc => ∃ (kq : Nat) (x54_33 : Bool), v54 = .bool x54_33 ∧ Ax (journal_Read.j2 kq x5_1 t224 x18_1 t224 (t224.length : Int) x18_1 x54_33 x224000_1 x224001_1 x224002_1 ((rd_T24 t224 x18_1).f0) ((rd_T24 t224 x18_1).f1) ((rd_T24 t224 x18_1).f2) ((rd_T24 t224 x18_1).f3) ((rd_T24 t224 x18_1).f4) = some (r1, r2, r3, r4)) ∧ Ax (kq ≤ kj12) ∧ Ax (Kd.R k24 24 wc w.heap.size (fun k_ => (w.heap.size ≤ k_) ∧ k_ ≠ gb229) (.slice (some ad228) t224.length co7) t224) ∧ Ax (Kd.R k24 24 wc w.heap.size (fun k_ => (w.heap.size ≤ k_) ∧ k_ ≠ gb229) (.slice (some ad228) t224.length co7) t224) ∧ Ax (Kd.N k44 44 wc w.heap.size (fun k_ => (w.heap.size ≤ k_) ∧ some k_ ≠ ((.slice (some ad228) t224.length co7) : Value).ownBlock ∧ some k_ ≠ ((.slice (some ad228) t224.length co7) : Value).ownBlock ∧ k_ ≠ gb222 ∧ k_ ≠ gb223 ∧ k_ ≠ gb229) u224001 x224001_1) ∧ Ax (wc.heap[gb222]? = some (.cells #[.int .u64 0, (.slice none 0 0), .string (⟨#[]⟩ : ByteArray)] 66 (0, 0))) ∧ Ax (wc.heap[gb223]? = some (.cells #[.int .u64 x224000_1, u224001, .string x224002_1] 66 (0, 0))) ∧ Ax (wc.heap[gb229]? = some (.cells #[.int .i64 ((rd_T24 t224 x18_1).f0), .int .i64 ((rd_T24 t224 x18_1).f1), .int .i64 ((rd_T24 t224 x18_1).f2), .int .u64 ((rd_T24 t224 x18_1).f3), .string ((rd_T24 t224 x18_1).f4)] 24 (0, 0))) ∧ Ax (Below w.heap.size w wc))
           case first =>
            have H := HC34.out
            clear HC34
            by_cases c35 : ((rd_T24 t224 x18_1).f1) = 0
            ·rw [if_pos c35] at H
             have c35b0 : (((rd_T24 t224 x18_1).f1) == 0) = true := beq_iff_eq.mpr c35
             have c35b1 : (((rd_T24 t224 x18_1).f1) != 0) = false := bne_eq_false_iff_eq.mpr c35
             clear c35
             (first | rw [c35b0] | (simp only [i64_w, i32_w]; rw [c35b0]) | skip)
             by_cases c36 : ((rd_T24 t224 x18_1).f2) = 0
             ·rw [if_pos c36] at H
              have c36b0 : (((rd_T24 t224 x18_1).f2) == 0) = true := beq_iff_eq.mpr c36
              have c36b1 : (((rd_T24 t224 x18_1).f2) != 0) = false := bne_eq_false_iff_eq.mpr c36
              clear c36
              have H' := Ax.mk H
              clear H
              have hnb37 := NB229_222.out
              have hnc37 := NB222_229.out
              have hnb38 := NB229_223.out
              have hnc38 := NB223_229.out
              have hcz39_0 : wc.cell? ⟨gb229, 0, none⟩ = some (.int .i64 ((rd_T24 t224 x18_1).f0)) := (bC BK229.out 0).trans rfl
              have hcz39_1 : wc.cell? ⟨gb229, 1, none⟩ = some (.int .i64 ((rd_T24 t224 x18_1).f1)) := (bC BK229.out 1).trans rfl
              have hcz39_2 : wc.cell? ⟨gb229, 2, none⟩ = some (.int .i64 ((rd_T24 t224 x18_1).f2)) := (bC BK229.out 2).trans rfl
              have hcz39_3 : wc.cell? ⟨gb229, 3, none⟩ = some (.int .u64 ((rd_T24 t224 x18_1).f3)) := (bC BK229.out 3).trans rfl
              have hcz39_4 : wc.cell? ⟨gb229, 4, none⟩ = some (.string ((rd_T24 t224 x18_1).f4)) := (bC BK229.out 4).trans rfl
              have hfz39_0 := bF BK229.out 0
              have hfz39_1 := bF BK229.out 1
              have hfz39_2 := bF BK229.out 2
              have hfz39_3 := bF BK229.out 3
              have hfz39_4 := bF BK229.out 4
              go_wp2
              go_meet
              case rel => exact ⟨_, (!x10_12), (by first | rfl | (simp; done) | (simp [*]; done)), H', ⟨by have := HK1.out; have := HJ12.out; first | omega | exact Nat.le_refl _⟩, ⟨by apply Kd.R_to; exact HO_6.out⟩, ⟨by apply Kd.R_to; exact HO_16.out⟩, ⟨by apply Kd.N_to; exact HO_224001.out⟩, ⟨by refine bT ?_; exact BK222.out⟩, ⟨by refine bT ?_; exact BK223.out⟩, ⟨by refine bT ?_; exact BK229.out⟩, ⟨bA⟩⟩
             ·rw [if_neg c36] at H
              have c36b0 : (((rd_T24 t224 x18_1).f2) == 0) = false := beq_eq_false_iff_ne.mpr c36
              have c36b1 : (((rd_T24 t224 x18_1).f2) != 0) = true := bne_iff_ne.mpr c36
              have H' := Ax.mk H
              clear H
              have hnb40 := NB229_222.out
              have hnc40 := NB222_229.out
              have hnb41 := NB229_223.out
              have hnc41 := NB223_229.out
              have hcz42_0 : wc.cell? ⟨gb229, 0, none⟩ = some (.int .i64 ((rd_T24 t224 x18_1).f0)) := (bC BK229.out 0).trans rfl
              have hcz42_1 : wc.cell? ⟨gb229, 1, none⟩ = some (.int .i64 ((rd_T24 t224 x18_1).f1)) := (bC BK229.out 1).trans rfl
              have hcz42_2 : wc.cell? ⟨gb229, 2, none⟩ = some (.int .i64 ((rd_T24 t224 x18_1).f2)) := (bC BK229.out 2).trans rfl
              have hcz42_3 : wc.cell? ⟨gb229, 3, none⟩ = some (.int .u64 ((rd_T24 t224 x18_1).f3)) := (bC BK229.out 3).trans rfl
              have hcz42_4 : wc.cell? ⟨gb229, 4, none⟩ = some (.string ((rd_T24 t224 x18_1).f4)) := (bC BK229.out 4).trans rfl
              have hfz42_0 := bF BK229.out 0
              have hfz42_1 := bF BK229.out 1
              have hfz42_2 := bF BK229.out 2
              have hfz42_3 := bF BK229.out 3
              have hfz42_4 := bF BK229.out 4
              go_wp2
              go_meet
              case rel => exact ⟨_, (true), (by first | rfl | (simp; done) | (simp [*]; done)), H', ⟨by have := HK1.out; have := HJ12.out; first | omega | exact Nat.le_refl _⟩, ⟨by apply Kd.R_to; exact HO_6.out⟩, ⟨by apply Kd.R_to; exact HO_16.out⟩, ⟨by apply Kd.N_to; exact HO_224001.out⟩, ⟨by refine bT ?_; exact BK222.out⟩, ⟨by refine bT ?_; exact BK223.out⟩, ⟨by refine bT ?_; exact BK229.out⟩, ⟨bA⟩⟩
            ·rw [if_neg c35] at H
             have c35b0 : (((rd_T24 t224 x18_1).f1) == 0) = false := beq_eq_false_iff_ne.mpr c35
             have c35b1 : (((rd_T24 t224 x18_1).f1) != 0) = true := bne_iff_ne.mpr c35
             (first | rw [c35b0] | (simp only [i64_w, i32_w]; rw [c35b0]) | skip)
             have H' := Ax.mk H
             clear H
             have hnb43 := NB229_222.out
             have hnc43 := NB222_229.out
             have hnb44 := NB229_223.out
             have hnc44 := NB223_229.out
             have hcz45_0 : wc.cell? ⟨gb229, 0, none⟩ = some (.int .i64 ((rd_T24 t224 x18_1).f0)) := (bC BK229.out 0).trans rfl
             have hcz45_1 : wc.cell? ⟨gb229, 1, none⟩ = some (.int .i64 ((rd_T24 t224 x18_1).f1)) := (bC BK229.out 1).trans rfl
             have hcz45_2 : wc.cell? ⟨gb229, 2, none⟩ = some (.int .i64 ((rd_T24 t224 x18_1).f2)) := (bC BK229.out 2).trans rfl
             have hcz45_3 : wc.cell? ⟨gb229, 3, none⟩ = some (.int .u64 ((rd_T24 t224 x18_1).f3)) := (bC BK229.out 3).trans rfl
             have hcz45_4 : wc.cell? ⟨gb229, 4, none⟩ = some (.string ((rd_T24 t224 x18_1).f4)) := (bC BK229.out 4).trans rfl
             have hfz45_0 := bF BK229.out 0
             have hfz45_1 := bF BK229.out 1
             have hfz45_2 := bF BK229.out 2
             have hfz45_3 := bF BK229.out 3
             have hfz45_4 := bF BK229.out 4
             go_wp2
             go_meet
             case rel => exact ⟨_, (true), (by first | rfl | (simp; done) | (simp [*]; done)), H', ⟨by have := HK1.out; have := HJ12.out; first | omega | exact Nat.le_refl _⟩, ⟨by apply Kd.R_to; exact HO_6.out⟩, ⟨by apply Kd.R_to; exact HO_16.out⟩, ⟨by apply Kd.N_to; exact HO_224001.out⟩, ⟨by refine bT ?_; exact BK222.out⟩, ⟨by refine bT ?_; exact BK223.out⟩, ⟨by refine bT ?_; exact BK229.out⟩, ⟨bA⟩⟩
           case rest =>
            clear HC34
            try clear c1
            try clear c2
            try clear p2
            try clear q2
            try clear hx2
            try clear c3
            try clear c4
            try clear c8
            try clear c8b0
            try clear c10
            try clear c10b0
            try clear c11
            try clear c11b0
            try clear c12
            try clear c12b0
            try clear c12b1
            try clear c15
            try clear c16
            try clear c18
            try clear c18b0
            try clear c18b1
            try clear c18b2
            try clear c19
            try clear c20
            try clear p22
            try clear q22
            try clear hx22
            try clear c23
            try clear c23b0
            try clear c24
            try clear c25
            try clear c28
            try clear c29
            try clear c30
            try clear c31
            try clear c35
            try clear c35b0
            try clear c35b1
            try clear c36
            try clear c36b0
            try clear c36b1
            try clear c37
            try clear c38
            try clear c40
            try clear c41
            try clear c43
            try clear c44
            try clear hcz17_0
            try clear hcz17_1
            try clear hcz17_2
            try clear hcz17_3
            try clear hcz17_4
            try clear hcz21_0
            try clear hcz21_1
            try clear hcz21_2
            try clear hcz26_0
            try clear hcz26_1
            try clear hcz26_2
            try clear hcz29_0
            try clear hcz29_1
            try clear hcz29_2
            try clear hcz29_3
            try clear hcz29_4
            try clear hcz32_0
            try clear hcz32_1
            try clear hcz32_2
            try clear hcz39_0
            try clear hcz39_1
            try clear hcz39_2
            try clear hcz39_3
            try clear hcz39_4
            try clear hcz42_0
            try clear hcz42_1
            try clear hcz42_2
            try clear hcz42_3
            try clear hcz42_4
            try clear hcz45_0
            try clear hcz45_1
            try clear hcz45_2
            try clear hcz45_3
            try clear hcz45_4
            try clear hfz17_0
            try clear hfz17_1
            try clear hfz17_2
            try clear hfz17_3
            try clear hfz17_4
            try clear hfz21_0
            try clear hfz21_1
            try clear hfz21_2
            try clear hfz26_0
            try clear hfz26_1
            try clear hfz26_2
            try clear hfz29_0
            try clear hfz29_1
            try clear hfz29_2
            try clear hfz29_3
            try clear hfz29_4
            try clear hfz32_0
            try clear hfz32_1
            try clear hfz32_2
            try clear hfz39_0
            try clear hfz39_1
            try clear hfz39_2
            try clear hfz39_3
            try clear hfz39_4
            try clear hfz42_0
            try clear hfz42_1
            try clear hfz42_2
            try clear hfz42_3
            try clear hfz42_4
            try clear hfz45_0
            try clear hfz45_1
            try clear hfz45_2
            try clear hfz45_3
            try clear hfz45_4
            try clear hx228_0
            try clear hx228_1
            try clear hx228_2
            try clear hx228_3
            try clear hx228_4
            try clear p2
            try clear p22
            try clear p228
            try clear q2
            try clear q22
            try clear q228
            obtain ⟨kq, x54_33, rfl, HA, HJ33, HO_6, HO_16, HO_224001, BK222, BK223, BK229, HB⟩ := hcut
            cases kq with
            | zero => exact absurd HA.out (by simp [journal_Read.j2])
            | succ kj33 =>
             have H := HA.out
             clear HA
             simp only [journal_Read.j2] at H
             by_cases c46 : x54_33 = true
             ·subst c46
              have H1 : (journal_Read.j4 kj33 x224000_1 x224001_1 x224002_1) = some (r1, r2, r3, r4) := by rw [if_pos rfl] at H; exact H
              clear H
              have H := H1
              clear H1
              have H' := Ax.mk H
              clear H
              go_wp2
              go_meet
              case rel => exact ⟨_, (x224000_1), (x224001_1), (x224002_1), (u224001), H', ⟨by have := HK1.out; have := HJ12.out; have := HJ33.out; first | omega | exact Nat.le_refl _⟩, ⟨by apply Kd.N_to; exact Kd.N_mono HO_224001.out (fun _ hk => ⟨hk.1, ⟨hk.2.2.2.1, hk.2.2.2.2.1⟩⟩)⟩, ⟨by refine bT ?_; exact BK222.out⟩, ⟨by refine bT ?_; exact BK223.out⟩, ⟨bA⟩⟩
             ·replace c46 := Bool.eq_false_iff.mpr c46
              subst c46
              have H1 : (if 0 ≤ x5_1 then (if x5_1 ≤ x18_1 then (if x18_1 ≤ (t224.length : Int) then ((journal_Log_with.f kj33 x224000_1 x224001_1 x224002_1 ((rd_T24 t224 x18_1).f3) ((t224.take (x18_1 : Int).toNat).drop (x5_1 : Int).toNat)).bind fun bt234 => (journal_Read.j3 kj33 (wrap64 (x18_1 + 1)) t224 t224 (t224.length : Int) x18_1 bt234.1 bt234.2.1 bt234.2.2.1)) else (none)) else (none)) else (none)) = some (r1, r2, r3, r4) := by rw [if_neg (show ¬ (false = true) by decide)] at H; exact H
              clear H
              have H := H1
              clear H1
              by_cases c47 : 0 ≤ x5_1
              ·rw [if_pos c47] at H
               have c47b0 := eq_true c47
               have c47b1 : decide (0 ≤ x5_1) = true := decide_eq_true c47
               clear c47
               by_cases c48 : x5_1 ≤ x18_1
               ·rw [if_pos c48] at H
                have c48b0 := eq_true c48
                have c48b1 : decide (x5_1 ≤ x18_1) = true := decide_eq_true c48
                clear c48
                by_cases c49 : x18_1 ≤ (t224.length : Int)
                ·rw [if_pos c49] at H
                 have c49b0 := eq_true c49
                 have c49b1 : decide (x18_1 ≤ (t224.length : Int)) = true := decide_eq_true c49
                 clear c49
                 obtain ⟨y230, hy230⟩ : ∃ y_ : List (S24), y_ = ((t224.take (x18_1 : Int).toNat).drop (x5_1 : Int).toNat) := ⟨_, rfl⟩
                 replace H : ((journal_Log_with.f kj33 x224000_1 x224001_1 x224002_1 ((rd_T24 t224 x18_1).f3) y230).bind fun bt234 => (journal_Read.j3 kj33 (wrap64 (x18_1 + 1)) t224 t224 (t224.length : Int) x18_1 bt234.1 bt234.2.1 bt234.2.2.1)) = some (r1, r2, r3, r4) := by first | (rw [hy230]; with_reducible exact H) | (have H2_ := (Option.bind_some _ _).symm.trans H; rw [hy230]; with_reducible exact H2_) | (have H2_ := (Option.bind_some _ _).symm.trans H; with_reducible exact H2_) | with_reducible exact H | (rw [hy230]; exact H) | exact H
                 have Ny230 := Ax.mk hy230
                 clear hy230
                 replace H := Option.bind_eq_some_iff.mp H
                 obtain ⟨⟨t234, t235, t238, t239⟩, A500, H⟩ := H
                 replace H : (journal_Read.j3 kj33 (wrap64 (x18_1 + 1)) t224 t224 (t224.length : Int) x18_1 t234 t235 t238) = some (r1, r2, r3, r4) := H
                 have A50 := Ax.mk A500
                 clear A500
                 have H' := Ax.mk H
                 clear H
                 try go_wp2
                 have n0_ := Ax.mk (Kd.R_drew HO_6.out)
                 have n1_ := Ax.mk (Kd.R_drew HO_16.out)
                 have n2_ := Ax.mk (Kd.N_drew HO_224001.out)
                 have n3_ := Ax.mk (blk_drew BK222.out)
                 have n4_ := Ax.mk (blk_drew BK223.out)
                 have n5_ := Ax.mk (blk_drew BK229.out)
                 have n6_ := Ax.mk (below_drew1 HB.out)
                 clear HO_6
                 clear HO_16
                 clear HO_224001
                 clear BK222
                 clear BK223
                 clear BK229
                 clear HB
                 have HO_6 := n0_
                 have HO_16 := n1_
                 have HO_224001 := n2_
                 have BK222 := n3_
                 have BK223 := n4_
                 have BK229 := n5_
                 have HB := n6_
                 clear n0_ n1_ n2_ n3_ n4_ n5_ n6_
                 have q52 : (x18_1 : Int) ≤ ((t224.length : Int) : Int) := ofD
                 obtain ⟨i052, hi052, _, hsz52, _⟩ := info_parts info24
                 have hroom52 : t224.length ≤ co7 := (Kd.R_reads' HO_6.out).2.1
                 have hC52 : Kd.C k24 _ (some ad228) t224.length t224 := (Kd.R_reads' HO_6.out).2.2
                 have ql52 : (x5_1 : Int) ≤ (x18_1 : Int) := ofD
                 have q052 : (0 : Int) ≤ (x5_1 : Int) := ofD
                 have hcut52 := cut_mid (P := Tryd.prog) 29 24 .i64 .i64 Tryd.underlying29 hi052 5 hsz52 (some ad228) t224.length co7 x5_1 x18_1 q052 ql52 q52 hroom52
                 have hr52 := Kd.C_mid (lo := (x5_1 : Int).toNat) (hi := (x18_1 : Int).toNat) (c := co7) hC52 (by omega) (by omega) hroom52
                 obtain ⟨A52, hA52⟩ : ∃ A1, A1 = (if co7 = (x5_1 : Int).toNat then (some ad228) else ((some ad228) : Option Addr).map (·.add ((x5_1 : Int).toNat * 5))) := ⟨_, rfl⟩
                 obtain ⟨c52, hc52⟩ : ∃ c1, c1 = co7 - (x5_1 : Int).toNat := ⟨_, rfl⟩
                 have hy52 : y230.length = (x18_1 : Int).toNat - (x5_1 : Int).toNat := (by rw [Ny230.out, List.length_drop, List.length_take] <;> omega)
                 rw [show ((t224).take (x18_1 : Int).toNat).drop (x5_1 : Int).toNat = y230 from Ny230.out.symm] at hr52
                 replace hr52 : Kd.C k24 _ A52 y230.length y230 := (by rw [hA52]; exact hr52)
                 rw [← hy52, ← hA52, ← hc52] at hcut52
                 have HR233 := Ax.mk hr52
                 have HC233 := Ax.mk (show y230.length ≤ c52 from by rw [hy52, hc52]; exact Nat.sub_le_sub_right (Nat.le_trans (by omega) hroom52) _)
                 clear hr52 hC52 hroom52 hi052 hsz52
                 have KC52 := Ax.mk hc52
                 clear hc52
                 have KY52 := Ax.mk hy52
                 have KA52 := Ax.mk hA52
                 clear hy52 hA52
                 have KL52 := Ax.mk (show (x18_1 : Int).toNat ≤ t224.length from by omega)
                 have KM52 := Ax.mk (show (x5_1 : Int).toNat ≤ (x18_1 : Int).toNat from by omega)
                 replace q52 := eq_true q52
                 obtain ⟨Ao53, co53, eo53⟩ := Kd.N_slice HO_224001.out
                 (first | subst eo53 | (injection eo53 with f1_ f2_ f3_; have f4_ := f1_.symm; have f5_ := f3_.symm; clear f1_ f2_ f3_; subst f4_; subst f5_))
                 refine start_ (n := 13) (S := fun w' => w'.cell? ⟨gb223, 0, none⟩ = some (.int .u64 x224000_1) ∧ w'.cell? ⟨gb223, 1, none⟩ = some (.slice Ao53 x224001_1.length co53) ∧ w'.cell? ⟨gb223, 2, none⟩ = some (.string x224002_1) ∧ w'.cell? ⟨gb229, 0, none⟩ = some (.int .i64 ((rd_T24 t224 x18_1).f0)) ∧ w'.cell? ⟨gb229, 1, none⟩ = some (.int .i64 ((rd_T24 t224 x18_1).f1)) ∧ w'.cell? ⟨gb229, 2, none⟩ = some (.int .i64 ((rd_T24 t224 x18_1).f2)) ∧ w'.cell? ⟨gb229, 3, none⟩ = some (.int .u64 ((rd_T24 t224 x18_1).f3)) ∧ w'.cell? ⟨gb229, 4, none⟩ = some (.string ((rd_T24 t224 x18_1).f4))) (ds := [12]) (TF 0 13) (by kernel_rfl) rfl rfl ⟨(bC BK223.out 0).trans rfl, (bC BK223.out 1).trans rfl, (bC BK223.out 2).trans rfl, (bC BK229.out 0).trans rfl, (bC BK229.out 1).trans rfl, (bC BK229.out 2).trans rfl, (bC BK229.out 3).trans rfl, (bC BK229.out 4).trans rfl⟩ (fun hHeld => ?_); refine with_tabW journal_Read.tab10 journal_Read.bits10 (fun HT_ HW_ => ?_)
                 generalize wc.drew = w51 at HO_6 HO_16 HO_224001 BK222 BK223 BK229 HB HR233 hHeld ⊢
                 refine pure_ (i := 1) (N := some 57) (v := ?_) (a' := ?_) (BT 13 2) rfl rfl (any_of HT_.out (by kernel_rfl)) (fun _ _ _ h => h) (Or.inl ⟨by rfl, ?_⟩) ?_ ?_
                 rotate_left; · intro w'; go_simp; with_reducible rfl
                 rotate_left; · simp only [Act.put, sI, sZ, sS, i64_w, i32_w]; rfl
                 refine pure_ (i := 3) (N := some 59) (v := ?_) (a' := ?_) (BT 13 10) rfl rfl (any_of HT_.out (by kernel_rfl)) (fun _ _ _ h => h) (Or.inl ⟨by rfl, ?_⟩) ?_ ?_
                 rotate_left; · intro w'; go_simp; with_reducible rfl
                 rotate_left; · simp only [Act.put, sI, sZ, sS, i64_w, i32_w]; rfl
                 refine pure_ (i := 4) (N := some 60) (v := ?_) (a' := ?_) (BT 13 26) rfl rfl (any_of HT_.out (by kernel_rfl)) (fun _ _ _ h => h) (Or.inl ⟨by rfl, ?_⟩) ?_ ?_
                 rotate_left; · intro w'; go_simp; with_reducible rfl
                 rotate_left; · simp only [Act.put, sI, sZ, sS, i64_w, i32_w]; rfl
                 refine pure_ (i := 5) (N := some 61) (v := ?_) (a' := ?_) (BT 13 58) rfl rfl (any_of HT_.out (by kernel_rfl)) (fun _ _ _ h => h) (Or.inl ⟨by rfl, ?_⟩) ?_ ?_
                 rotate_left; · intro w'; go_simp; with_reducible rfl
                 rotate_left; · simp only [Act.put, sI, sZ, sS, i64_w, i32_w]; rfl
                 refine pure_ (i := 6) (N := some 62) (v := ?_) (a' := ?_) (BT 13 122) rfl rfl (any_of HT_.out (by kernel_rfl)) (fun _ _ _ h => h) (Or.inl ⟨by rfl, ?_⟩) ?_ ?_
                 rotate_left; · intro w'; go_simp; with_reducible rfl
                 rotate_left; · simp only [Act.put, sI, sZ, sS, i64_w, i32_w]; rfl
                 refine take_ (i := 0) (N := some 56) (v := ?_) (a' := ?_) (BT 13 123) rfl rfl (take_ofW HT_.out HW_.out (by kernel_rfl)) (fun _ _ _ h => h) (Or.inl ⟨by rfl, ?_⟩) hHeld ?_ ?_
                 rotate_left
                 ·rintro w' ⟨s0, s1, s2, s3, s4, s5, s6, s7⟩
                  go_simp
                  with_reducible rfl
                 rotate_left
                 ·simp only [Act.put, sI, sZ, sS, i64_w, i32_w]
                  rfl
                 refine take_ (i := 2) (N := some 58) (v := ?_) (a' := ?_) (TF 7 6) rfl rfl (take_ofW HT_.out HW_.out (by kernel_rfl)) (fun _ _ _ h => h) (Or.inl ⟨by rfl, ?_⟩) hHeld ?_ ?_
                 rotate_left
                 ·rintro w' ⟨s0, s1, s2, s3, s4, s5, s6, s7⟩
                  go_simp
                  with_reducible rfl
                 rotate_left
                 ·simp only [Act.put, sI, sZ, sS, i64_w, i32_w]
                  rfl
                 refine pure_ (i := 7) (N := some 63) (v := ?_) (a' := ?_) (TF 8 5) rfl rfl (any_of HT_.out (by kernel_rfl)) (fun _ _ _ h => h) (Or.inl ⟨by rfl, ?_⟩) ?_ ?_
                 rotate_left; · intro w'; go_simp; with_reducible rfl
                 rotate_left; · simp only [Act.put, sI, sZ, sS, i64_w, i32_w]; rfl
                 refine one_ (i := 8) (N := some 64) (TF 9 4) rfl rfl (one_of HT_.out (by kernel_rfl)) (by decide) (fun K hK => ?_)
                 refine goes_ Tryd.func62 (by kernel_rfl) rfl #[.agg #[.int .u64 x224000_1, .slice Ao53 x224001_1.length co53, .string x224002_1], .agg #[.int .u64 ((rd_T24 t224 x18_1).f3), .slice A52 y230.length c52]] (by rfl) rfl rfl (by (try simp only [List.map_toArray, List.map_cons, List.map_nil]); first | done | rfl | (simp only [List.length_drop, List.length_take]; rfl) | (rw [wrap_sum2 (by assumption)]; rfl) | (rw [KA52.out, KY52.out, KC52.out]; rfl)) ?_
                 with_reducible refine (journal_Log_with.calls kj33 x224000_1 (fun k_ => ((w.heap.size ≤ k_) ∧ (some k_ ≠ (.slice (some ad228) t224.length co7 : Value).ownBlock ∧ (some k_ ≠ (.slice (some ad228) t224.length co7 : Value).ownBlock ∧ (k_ ≠ gb222 ∧ (k_ ≠ gb223 ∧ k_ ≠ gb229)))))) _ _ x224001_1 x224002_1 ((rd_T24 t224 x18_1).f3) _ _ y230 t234 t235 t238 t239 _ ?side1 ?side2 ?side3 A50.out (HT.below bA)).mono ?_
                 (case side1 => exact Kd.N_V (HO_224001.out))
                 (case side2 => repeat (first | exact (by repeat (first | (with_reducible exact HR233.out) | (with_reducible refine Kd.C_alloc ?_ _) | (with_reducible refine Kd.C_drewN ?_ _) | (with_reducible refine Kd.C_drew ?_) | exact HR233.out)) | (with_reducible refine Kd.C_alloc ?_ _) | (with_reducible refine Kd.C_drewN ?_ _) | (with_reducible refine Kd.C_drew ?_)))
                 (case side3 => exact HC233.out)
                 rintro e w54 ⟨v236, rfl, ho0, hb⟩
                 refine ⟨_, rfl, ?_⟩
                 have n0_ := Ax.mk (Kd.R_below (by exact Kd.R_to HO_6.out) hb)
                 have n1_ := Ax.mk (Kd.R_below (by exact Kd.R_to HO_16.out) hb)
                 have n2_ := Ax.mk (Kd.N_elder' (by exact Kd.N_to HO_224001.out) (Kd.N_base ho0) hb)
                 have n3_ := Ax.mk (Kd.N_lower (Kd.N_mono (ok' := fun k_ => (w.heap.size ≤ k_) ∧ some k_ ≠ (.slice (some ad228) t224.length co7 : Value).ownBlock ∧ some k_ ≠ (.slice (some ad228) t224.length co7 : Value).ownBlock ∧ k_ ≠ gb222 ∧ k_ ≠ gb223 ∧ k_ ≠ gb229) ho0 (fun k_ hk_ => ⟨Or.elim hk_ (fun hs_ => hs_.1) (fun hn_ => (Nat.le_trans (bS bA) hn_)), Or.elim hk_ (fun hs_ => hs_.2.1) (fun hn_ => (Kd.fresh' (Kd.R_lt (by exact Kd.R_to HO_6.out)) k_ hn_)), Or.elim hk_ (fun hs_ => hs_.2.2.1) (fun hn_ => (Kd.fresh' (Kd.R_lt (by exact Kd.R_to HO_16.out)) k_ hn_)), Or.elim hk_ (fun hs_ => hs_.2.2.2.1) (fun hn_ => (Kd.freshB (g := gb222) (o := .cells #[.int .u64 0, .slice none 0 0, .string (⟨#[]⟩ : ByteArray)] 66 (0, 0)) (bT BK222.out) k_ hn_)), Or.elim hk_ (fun hs_ => hs_.2.2.2.2.1) (fun hn_ => (Kd.freshB (g := gb223) (o := .cells #[.int .u64 x224000_1, .slice Ao53 x224001_1.length co53, .string x224002_1] 66 (0, 0)) (bT BK223.out) k_ hn_)), Or.elim hk_ (fun hs_ => hs_.2.2.2.2.2) (fun hn_ => (Kd.freshB (g := gb229) (o := .cells #[.int .i64 ((rd_T24 t224 x18_1).f0), .int .i64 ((rd_T24 t224 x18_1).f1), .int .i64 ((rd_T24 t224 x18_1).f2), .int .u64 ((rd_T24 t224 x18_1).f3), .string ((rd_T24 t224 x18_1).f4)] 24 (0, 0)) (bT BK229.out) k_ hn_))⟩)) (bS bA))
                 have n4_ := Ax.mk (bB (bT BK222.out) hb)
                 have n5_ := Ax.mk (bB (bT BK223.out) hb)
                 have n6_ := Ax.mk (bB (bT BK229.out) hb)
                 have n7_ := Ax.mk (Kd.C_below (by repeat (first | (with_reducible exact HR233.out) | (with_reducible refine Kd.C_alloc ?_ _) | (with_reducible refine Kd.C_drewN ?_ _) | (with_reducible refine Kd.C_drew ?_) | exact HR233.out)) hb)
                 have n8_ := Ax.mk (bP bA hb)
                 clear HO_6
                 clear HO_16
                 clear HO_224001
                 clear BK222
                 clear BK223
                 clear BK229
                 clear HR233
                 clear HB
                 have HO_6 := n0_
                 have HO_16 := n1_
                 have HO_224001 := n2_
                 have HO237 := n3_
                 have BK222 := n4_
                 have BK223 := n5_
                 have BK229 := n6_
                 have HR233 := n7_
                 have HB := n8_
                 clear n0_ n1_ n2_ n3_ n4_ n5_ n6_ n7_ n8_
                 (try clear hb)
                 (try clear hb2)
                 (try clear hk)
                 (try clear hi)
                 (try clear ho0)
                 obtain ⟨Ao56, co56, eo56⟩ := Kd.N_slice HO237.out
                 (first | subst eo56 | (injection eo56 with f1_ f2_ f3_; have f4_ := f1_.symm; have f5_ := f3_.symm; clear f1_ f2_ f3_; subst f4_; subst f5_))
                 refine hK.out _ _ ⟨(bC BK223.out 0).trans rfl, (bC BK223.out 1).trans rfl, (bC BK223.out 2).trans rfl, (bC BK229.out 0).trans rfl, (bC BK229.out 1).trans rfl, (bC BK229.out 2).trans rfl, (bC BK229.out 3).trans rfl, (bC BK229.out 4).trans rfl⟩ (fun hHeld => ?_)
                 clear hK K
                 refine norm_ (a' := ?_) ?_ ?_
                 rotate_left
                 ·show Act.put _ (some 64) _ = _
                  simp only [Act.put, sI, sZ, sS, i64_w, i32_w]
                  rfl
                 refine pure_ (i := 9) (N := some 55) (v := ?_) (a' := ?_) (TF 10 3) rfl rfl (any_of HT_.out (by kernel_rfl)) (fun _ _ _ h => h) (Or.inl ⟨by rfl, ?_⟩) ?_ ?_
                 rotate_left; · intro w'; go_simp; with_reducible rfl
                 rotate_left; · simp only [Act.put, sI, sZ, sS, i64_w, i32_w]; rfl
                 refine pure_ (i := 10) (N := some 65) (v := ?_) (a' := ?_) (TF 11 2) rfl rfl (any_of HT_.out (by kernel_rfl)) (fun _ _ _ h => h) (Or.inl ⟨by rfl, ?_⟩) ?_ ?_
                 rotate_left; · intro w'; go_simp; with_reducible rfl
                 rotate_left; · simp only [Act.put, sI, sZ, sS, i64_w, i32_w]; rfl
                 refine pure_ (i := 11) (N := some 66) (v := ?_) (a' := ?_) (TF 12 1) rfl rfl (any_of HT_.out (by kernel_rfl)) (fun _ _ _ h => h) (Or.inl ⟨by rfl, ?_⟩) ?_ ?_
                 rotate_left; · intro w'; go_simp; with_reducible rfl
                 rotate_left; · simp only [Act.put, sI, sZ, sS, i64_w, i32_w]; rfl
                 refine last_ (i := 12) (N := none) (TF 13 0) rfl rfl (one_of HT_.out (by kernel_rfl)) (by decide) (fun K hK => ?_)
                 have hs55 : w54.cell? ⟨gb223, 0, none⟩ = some (.int .u64 x224000_1) := (bC BK223.out 0).trans rfl
                 have hfs55 := bF BK223.out 0
                 have hns55_0 := NB222_223.out
                 have hns55_2 := NB229_223.out
                 have hms55_0 := NB223_222.out
                 have hms55_2 := NB223_229.out
                 have hs57 : w54.cell? ⟨gb223, 1, none⟩ = some (.slice Ao53 x224001_1.length co53) := (bC BK223.out 1).trans rfl
                 have hfs57 := bF BK223.out 1
                 have hns57_0 := NB222_223.out
                 have hns57_2 := NB229_223.out
                 have hms57_0 := NB223_222.out
                 have hms57_2 := NB223_229.out
                 have hs58 : w54.cell? ⟨gb223, 2, none⟩ = some (.string x224002_1) := (bC BK223.out 2).trans rfl
                 have hfs58 := bF BK223.out 2
                 have hns58_0 := NB222_223.out
                 have hns58_2 := NB229_223.out
                 have hms58_0 := NB223_222.out
                 have hms58_2 := NB223_229.out
                 refine skip_ (w1 := ?_) (by rfl) rfl ?_ ?_
                 rotate_left
                 ·go_simp
                  rfl
                 refine hK.out _ _ ?_
                 clear hK K
                 refine done_ (done_of HT_.out (by kernel_rfl)) ?_
                 try go_wp2
                 go_meet
                 case rel => exact ⟨_, (wrap64 (x18_1 + 1)), (t234), (t235), (t238), (.slice Ao56 t235.length co56), (by first | rfl | (simp; done) | (simp [*]; done)), H', ⟨by have := HK1.out; have := HJ12.out; have := HJ33.out; first | omega | exact Nat.le_refl _⟩, ⟨by apply Kd.R_to; exact Kd.R_mono (Kd.R_far (p := ⟨gb223, 2, none⟩) (Kd.R_far (p := ⟨gb223, 1, none⟩) (Kd.R_far (p := ⟨gb223, 0, none⟩) (Kd.R_types HO_6.out BK223.out (by decide)) (fun _ hk => hk.2) (.int .u64 t234)) (fun _ hk => hk.2) (.slice Ao56 t235.length co56)) (fun _ hk => hk.2) (.string t238)) (fun _ hk => hk.1.1)⟩, ⟨by apply Kd.R_to; exact Kd.R_mono (Kd.R_far (p := ⟨gb223, 2, none⟩) (Kd.R_far (p := ⟨gb223, 1, none⟩) (Kd.R_far (p := ⟨gb223, 0, none⟩) (Kd.R_types HO_16.out BK223.out (by decide)) (fun _ hk => hk.2) (.int .u64 t234)) (fun _ hk => hk.2) (.slice Ao56 t235.length co56)) (fun _ hk => hk.2) (.string t238)) (fun _ hk => hk.1.1)⟩, ⟨by apply Kd.N_to; exact Kd.N_mono (Kd.N_far (p := ⟨gb223, 2, none⟩) (Kd.N_far (p := ⟨gb223, 1, none⟩) (Kd.N_far (p := ⟨gb223, 0, none⟩) (Kd.N_mono HO237.out (fun k_ hk => (⟨hk, hk.2.2.2.2.1⟩ : _ ∧ k_ ≠ gb223))) (fun _ hk => hk.2) (.int .u64 t234)) (fun _ hk => hk.2) (.slice Ao56 t235.length co56)) (fun _ hk => hk.2) (.string t238)) (fun _ hk => ⟨hk.1.1, ⟨hk.1.2.1, ⟨hk.1.2.2.1, ⟨hk.1.2.2.2.1, hk.1.2.2.2.2.1⟩⟩⟩⟩)⟩, ⟨by refine bT ?_; refine bR ?_ NB222_223.out _; refine bT ?_; refine bR ?_ NB222_223.out _; refine bT ?_; refine bR ?_ NB222_223.out _; refine bT ?_; exact BK222.out⟩, ⟨by refine bT ?_; refine bU (cs := #[.int .u64 t234, .slice Ao56 t235.length co56, .string x224002_1]) ?_ 2 _ rfl; refine bT ?_; refine bU (cs := #[.int .u64 t234, .slice Ao53 x224001_1.length co53, .string x224002_1]) ?_ 1 _ rfl; refine bT ?_; refine bU (cs := #[.int .u64 x224000_1, .slice Ao53 x224001_1.length co53, .string x224002_1]) ?_ 0 _ rfl; refine bT ?_; exact BK223.out⟩, ⟨bA⟩⟩
                ·rw [if_neg c49] at H
                 exact absurd H (by simp)
               ·rw [if_neg c48] at H
                exact absurd H (by simp)
              ·rw [if_neg c47] at H
               exact absurd H (by simp)
        ·rw [if_neg c12] at H
         have c12b0 : (((rd_T24 t224 x18_1).f0) == 8) = false := beq_eq_false_iff_ne.mpr c12
         have c12b1 : (((rd_T24 t224 x18_1).f0) != 8) = true := bne_iff_ne.mpr c12
         have H' := Ax.mk H
         clear H
         have p228 : 0 ≤ (x18_1 : Int) := ofD
         have q228 : x18_1 < (t224.length : Int) := ofD
         obtain ⟨ad228, e228, hx228_0, hx228_1, hx228_2, hx228_3, hx228_4⟩ := at_T24 (Kd.R_reads' HO_16.out).2.2 x18_1 p228 q228
         cases e228
         replace p228 := eq_true p228
         replace q228 := eq_true q228
         go_wp2_with (first | ((with_reducible refine gate_dst (N := 9) rfl ?_); refine box_event ?hg (N := 9) ?hd (cs := #[.int .i64 0, .int .i64 0, .int .i64 0, .int .u64 0, .string (⟨#[]⟩ : ByteArray)]) (t := 24) ?hr ?_; (case hd => rfl); (case hg => rfl); (case hr => first | (go_simp; done) | (go_simp; rfl)); intro gb229 hg w59 hbox hb; have n0_ := Ax.mk (Kd.R_below (Kd.R_elderB (by exact Kd.R_to HO_6.out) gb229 (Nat.le_of_eq hg.symm)) hb); have n1_ := Ax.mk (Kd.R_below (Kd.R_elderB (by exact Kd.R_to HO_16.out) gb229 (Nat.le_of_eq hg.symm)) hb); have n2_ := Ax.mk (Kd.N_below (Kd.N_elderB (by exact Kd.N_to HO_224001.out) gb229 (Nat.le_of_eq hg.symm)) hb); have n3_ := Ax.mk (bB (bT BK222.out) hb); have n4_ := Ax.mk (bB (bT BK223.out) hb); have n5_ := Ax.mk (bP bA hb); have n6_ := Ax.mk (hbox); have n7_ := Ax.mk ((ge_new hg : w.heap.size ≤ gb229)); have n8_ := n7_; have n9_ := Ax.mk ((ne_lt hg BK222.out : gb222 ≠ gb229)); have n10_ := Ax.mk ((ne_gt hg BK222.out : gb229 ≠ gb222)); have n11_ := Ax.mk ((ne_lt hg BK223.out : gb223 ≠ gb229)); have n12_ := Ax.mk ((ne_gt hg BK223.out : gb229 ≠ gb223)); clear HO_6; clear HO_16; clear HO_224001; clear BK222; clear BK223; clear HB; have HO_6 := n0_; have HO_16 := n1_; have HO_224001 := n2_; have BK222 := n3_; have BK223 := n4_; have HB := n5_; have BK229 := n6_; have GW229 := n7_; have GE229 := n8_; have NB222_229 := n9_; have NB229_222 := n10_; have NB223_229 := n11_; have NB229_223 := n12_; clear n0_ n1_ n2_ n3_ n4_ n5_ n6_ n7_ n8_ n9_ n10_ n11_ n12_; clear hb hbox hg; have hnb60 := NB229_222.out; have hnc60 := NB222_229.out; have hnb61 := NB229_223.out; have hnc61 := NB223_229.out; have hcz62_0 : w59.cell? ⟨gb229, 0, none⟩ = some (.int .i64 0) := (bC BK229.out 0).trans rfl; have hcz62_1 : w59.cell? ⟨gb229, 1, none⟩ = some (.int .i64 0) := (bC BK229.out 1).trans rfl; have hcz62_2 : w59.cell? ⟨gb229, 2, none⟩ = some (.int .i64 0) := (bC BK229.out 2).trans rfl; have hcz62_3 : w59.cell? ⟨gb229, 3, none⟩ = some (.int .u64 0) := (bC BK229.out 3).trans rfl; have hcz62_4 : w59.cell? ⟨gb229, 4, none⟩ = some (.string (⟨#[]⟩ : ByteArray)) := (bC BK229.out 4).trans rfl; have hfz62_0 := bF BK229.out 0; have hfz62_1 := bF BK229.out 1; have hfz62_2 := bF BK229.out 2; have hfz62_3 := bF BK229.out 3; have hfz62_4 := bF BK229.out 4))
         go_meet
         case rel => exact ⟨_, (x5_1), (x224000_1), (x224001_1), (x224002_1), (u224001), (by first | rfl | (simp; done) | (simp [*]; done)), H', ⟨by have := HK1.out; first | omega | exact Nat.le_refl _⟩, ⟨by apply Kd.R_to; exact Kd.R_mono (Kd.R_far (p := ⟨gb229, 4, none⟩) (Kd.R_far (p := ⟨gb229, 3, none⟩) (Kd.R_far (p := ⟨gb229, 2, none⟩) (Kd.R_far (p := ⟨gb229, 1, none⟩) (Kd.R_far (p := ⟨gb229, 0, none⟩) (Kd.R_mono HO_6.out (fun k_ hk => (⟨hk, hk.2⟩ : _ ∧ k_ ≠ gb229))) (fun _ hk => hk.2) (.int .i64 ((rd_T24 t224 x18_1).f0))) (fun _ hk => hk.2) (.int .i64 ((rd_T24 t224 x18_1).f1))) (fun _ hk => hk.2) (.int .i64 ((rd_T24 t224 x18_1).f2))) (fun _ hk => hk.2) (.int .u64 ((rd_T24 t224 x18_1).f3))) (fun _ hk => hk.2) (.string ((rd_T24 t224 x18_1).f4))) (fun _ hk => hk.1.1)⟩, ⟨by apply Kd.R_to; exact Kd.R_mono (Kd.R_far (p := ⟨gb229, 4, none⟩) (Kd.R_far (p := ⟨gb229, 3, none⟩) (Kd.R_far (p := ⟨gb229, 2, none⟩) (Kd.R_far (p := ⟨gb229, 1, none⟩) (Kd.R_far (p := ⟨gb229, 0, none⟩) (Kd.R_mono HO_16.out (fun k_ hk => (⟨hk, hk.2⟩ : _ ∧ k_ ≠ gb229))) (fun _ hk => hk.2) (.int .i64 ((rd_T24 t224 x18_1).f0))) (fun _ hk => hk.2) (.int .i64 ((rd_T24 t224 x18_1).f1))) (fun _ hk => hk.2) (.int .i64 ((rd_T24 t224 x18_1).f2))) (fun _ hk => hk.2) (.int .u64 ((rd_T24 t224 x18_1).f3))) (fun _ hk => hk.2) (.string ((rd_T24 t224 x18_1).f4))) (fun _ hk => hk.1.1)⟩, ⟨by apply Kd.N_to; exact Kd.N_mono (Kd.N_far (p := ⟨gb229, 4, none⟩) (Kd.N_far (p := ⟨gb229, 3, none⟩) (Kd.N_far (p := ⟨gb229, 2, none⟩) (Kd.N_far (p := ⟨gb229, 1, none⟩) (Kd.N_far (p := ⟨gb229, 0, none⟩) (Kd.N_mono HO_224001.out (fun k_ hk => (⟨hk, hk.2⟩ : _ ∧ k_ ≠ gb229))) (fun _ hk => hk.2) (.int .i64 ((rd_T24 t224 x18_1).f0))) (fun _ hk => hk.2) (.int .i64 ((rd_T24 t224 x18_1).f1))) (fun _ hk => hk.2) (.int .i64 ((rd_T24 t224 x18_1).f2))) (fun _ hk => hk.2) (.int .u64 ((rd_T24 t224 x18_1).f3))) (fun _ hk => hk.2) (.string ((rd_T24 t224 x18_1).f4))) (fun _ hk => ⟨hk.1.1.1, ⟨hk.1.1.2.1, ⟨hk.1.1.2.2.1, ⟨hk.1.1.2.2.2.1, hk.1.1.2.2.2.2⟩⟩⟩⟩)⟩, ⟨by refine bT ?_; refine bR ?_ NB222_229.out _; refine bT ?_; refine bR ?_ NB222_229.out _; refine bT ?_; refine bR ?_ NB222_229.out _; refine bT ?_; refine bR ?_ NB222_229.out _; refine bT ?_; refine bR ?_ NB222_229.out _; refine bT ?_; exact BK222.out⟩, ⟨by refine bT ?_; refine bR ?_ NB223_229.out _; refine bT ?_; refine bR ?_ NB223_229.out _; refine bT ?_; refine bR ?_ NB223_229.out _; refine bT ?_; refine bR ?_ NB223_229.out _; refine bT ?_; refine bR ?_ NB223_229.out _; refine bT ?_; exact BK223.out⟩, ⟨bA⟩⟩
       ·rw [if_neg c11] at H
        exact absurd H (by simp)
      ·rw [if_neg c10] at H
       exact absurd H (by simp)
     case rest =>
      clear HC9
      try clear c1
      try clear c2
      try clear p2
      try clear q2
      try clear hx2
      try clear c3
      try clear c4
      try clear c5
      try clear q5
      try clear c6
      try clear p6
      try clear c8
      try clear c8b0
      try clear c10
      try clear c10b0
      try clear c11
      try clear c11b0
      try clear c12
      try clear c12b0
      try clear c12b1
      try clear c15
      try clear c16
      try clear c18
      try clear c18b0
      try clear c18b1
      try clear c18b2
      try clear c19
      try clear c20
      try clear p22
      try clear q22
      try clear hx22
      try clear c23
      try clear c23b0
      try clear c24
      try clear c25
      try clear c28
      try clear c29
      try clear c30
      try clear c31
      try clear c35
      try clear c35b0
      try clear c35b1
      try clear c36
      try clear c36b0
      try clear c36b1
      try clear c37
      try clear c38
      try clear c40
      try clear c41
      try clear c43
      try clear c44
      try clear c46
      try clear c47
      try clear c47b0
      try clear c47b1
      try clear c48
      try clear c48b0
      try clear c48b1
      try clear c49
      try clear c49b0
      try clear c49b1
      try clear c52
      try clear q52
      try clear c60
      try clear c61
      try clear c62
      try clear hcz17_0
      try clear hcz17_1
      try clear hcz17_2
      try clear hcz17_3
      try clear hcz17_4
      try clear hcz21_0
      try clear hcz21_1
      try clear hcz21_2
      try clear hcz26_0
      try clear hcz26_1
      try clear hcz26_2
      try clear hcz29_0
      try clear hcz29_1
      try clear hcz29_2
      try clear hcz29_3
      try clear hcz29_4
      try clear hcz32_0
      try clear hcz32_1
      try clear hcz32_2
      try clear hcz39_0
      try clear hcz39_1
      try clear hcz39_2
      try clear hcz39_3
      try clear hcz39_4
      try clear hcz42_0
      try clear hcz42_1
      try clear hcz42_2
      try clear hcz42_3
      try clear hcz42_4
      try clear hcz45_0
      try clear hcz45_1
      try clear hcz45_2
      try clear hcz45_3
      try clear hcz45_4
      try clear hcz62_0
      try clear hcz62_1
      try clear hcz62_2
      try clear hcz62_3
      try clear hcz62_4
      try clear hfz17_0
      try clear hfz17_1
      try clear hfz17_2
      try clear hfz17_3
      try clear hfz17_4
      try clear hfz21_0
      try clear hfz21_1
      try clear hfz21_2
      try clear hfz26_0
      try clear hfz26_1
      try clear hfz26_2
      try clear hfz29_0
      try clear hfz29_1
      try clear hfz29_2
      try clear hfz29_3
      try clear hfz29_4
      try clear hfz32_0
      try clear hfz32_1
      try clear hfz32_2
      try clear hfz39_0
      try clear hfz39_1
      try clear hfz39_2
      try clear hfz39_3
      try clear hfz39_4
      try clear hfz42_0
      try clear hfz42_1
      try clear hfz42_2
      try clear hfz42_3
      try clear hfz42_4
      try clear hfz45_0
      try clear hfz45_1
      try clear hfz45_2
      try clear hfz45_3
      try clear hfz45_4
      try clear hfz62_0
      try clear hfz62_1
      try clear hfz62_2
      try clear hfz62_3
      try clear hfz62_4
      try clear hx228_0
      try clear hx228_1
      try clear hx228_2
      try clear hx228_3
      try clear hx228_4
      try clear p2
      try clear p22
      try clear p228
      try clear q052
      try clear q2
      try clear q22
      try clear q228
      try clear q52
      obtain ⟨kq, x5_8, x224000_8, x224001_8, x224002_8, u224001, rfl, HA, HJ8, HO_6, HO_16, HO_224001, BK222, BK223, HB⟩ := hcut
      cases kq with
      | zero => exact absurd HA.out (by simp [journal_Read.j3])
      | succ kj8 =>
       have H := HA.out
       clear HA
       simp only [journal_Read.j3] at H
       have H' := Ax.mk H
       clear H
       go_wp2
       go_roundg kj8
       case measure => have := HK1.out; have := HJ8.out; omega
       case rel => exact ⟨(x5_8), (wrap64 (x18_1 + 1)), (x224000_8), (x224001_8), (x224002_8), (u224001), (by first | rfl | (simp; done) | (simp [*]; done)), (by first | rfl | (simp; done) | (simp [*]; done)), H', ⟨by have := HK1.out; have := HJ8.out; omega⟩, ⟨by apply Kd.R_to; exact HO_6.out⟩, ⟨by apply Kd.R_to; exact HO_16.out⟩, ⟨by apply Kd.N_to; exact HO_224001.out⟩, ⟨by refine bT ?_; exact BK222.out⟩, ⟨by refine bT ?_; exact BK223.out⟩, ⟨bA⟩⟩
    ·rw [if_neg c8] at H
     have c8b0 : decide (x18_1 < (t224.length : Int)) = false := decide_eq_false c8
     clear c8
     (first | rw [c8b0] | (simp only [i64_w, i32_w]; rw [c8b0]) | skip)
     have H' := Ax.mk H
     clear H
     go_wp2
     go_meet
     case rel => exact ⟨_, (x224000_1), (x224001_1), (x224002_1), (u224001), H', ⟨by have := HK1.out; first | omega | exact Nat.le_refl _⟩, ⟨by apply Kd.N_to; exact Kd.N_mono HO_224001.out (fun _ hk => ⟨hk.1, ⟨hk.2.2.2.1, hk.2.2.2.2⟩⟩)⟩, ⟨by refine bT ?_; exact BK222.out⟩, ⟨by refine bT ?_; exact BK223.out⟩, ⟨bA⟩⟩
 case rest =>
  clear HC3
  try clear c1
  try clear c2
  try clear p2
  try clear q2
  try clear hx2
  try clear c3
  try clear c4
  try clear c5
  try clear q5
  try clear c6
  try clear p6
  try clear c8
  try clear c8b0
  try clear c10
  try clear c10b0
  try clear c11
  try clear c11b0
  try clear c12
  try clear c12b0
  try clear c12b1
  try clear c15
  try clear c16
  try clear c18
  try clear c18b0
  try clear c18b1
  try clear c18b2
  try clear c19
  try clear c20
  try clear p22
  try clear q22
  try clear hx22
  try clear c23
  try clear c23b0
  try clear c24
  try clear c25
  try clear c28
  try clear c29
  try clear c30
  try clear c31
  try clear c35
  try clear c35b0
  try clear c35b1
  try clear c36
  try clear c36b0
  try clear c36b1
  try clear c37
  try clear c38
  try clear c40
  try clear c41
  try clear c43
  try clear c44
  try clear c46
  try clear c47
  try clear c47b0
  try clear c47b1
  try clear c48
  try clear c48b0
  try clear c48b1
  try clear c49
  try clear c49b0
  try clear c49b1
  try clear c52
  try clear q52
  try clear c60
  try clear c61
  try clear c62
  try clear hcz17_0
  try clear hcz17_1
  try clear hcz17_2
  try clear hcz17_3
  try clear hcz17_4
  try clear hcz21_0
  try clear hcz21_1
  try clear hcz21_2
  try clear hcz26_0
  try clear hcz26_1
  try clear hcz26_2
  try clear hcz29_0
  try clear hcz29_1
  try clear hcz29_2
  try clear hcz29_3
  try clear hcz29_4
  try clear hcz32_0
  try clear hcz32_1
  try clear hcz32_2
  try clear hcz39_0
  try clear hcz39_1
  try clear hcz39_2
  try clear hcz39_3
  try clear hcz39_4
  try clear hcz42_0
  try clear hcz42_1
  try clear hcz42_2
  try clear hcz42_3
  try clear hcz42_4
  try clear hcz45_0
  try clear hcz45_1
  try clear hcz45_2
  try clear hcz45_3
  try clear hcz45_4
  try clear hcz62_0
  try clear hcz62_1
  try clear hcz62_2
  try clear hcz62_3
  try clear hcz62_4
  try clear hfz17_0
  try clear hfz17_1
  try clear hfz17_2
  try clear hfz17_3
  try clear hfz17_4
  try clear hfz21_0
  try clear hfz21_1
  try clear hfz21_2
  try clear hfz26_0
  try clear hfz26_1
  try clear hfz26_2
  try clear hfz29_0
  try clear hfz29_1
  try clear hfz29_2
  try clear hfz29_3
  try clear hfz29_4
  try clear hfz32_0
  try clear hfz32_1
  try clear hfz32_2
  try clear hfz39_0
  try clear hfz39_1
  try clear hfz39_2
  try clear hfz39_3
  try clear hfz39_4
  try clear hfz42_0
  try clear hfz42_1
  try clear hfz42_2
  try clear hfz42_3
  try clear hfz42_4
  try clear hfz45_0
  try clear hfz45_1
  try clear hfz45_2
  try clear hfz45_3
  try clear hfz45_4
  try clear hfz62_0
  try clear hfz62_1
  try clear hfz62_2
  try clear hfz62_3
  try clear hfz62_4
  try clear hx228_0
  try clear hx228_1
  try clear hx228_2
  try clear hx228_3
  try clear hx228_4
  try clear p2
  try clear p22
  try clear p228
  try clear p6
  try clear q052
  try clear q2
  try clear q22
  try clear q228
  try clear q5
  try clear q52
  obtain ⟨kq, x224000_2, x224001_2, x224002_2, u224001, HA, HJ2, HO_224001, BK222, BK223, HB⟩ := hcut
  cases kq with
  | zero => exact absurd HA.out (by simp [journal_Read.j4])
  | succ kj2 =>
   have H := HA.out
   clear HA
   simp only [journal_Read.j4] at H
   simp only [Option.some.injEq, Prod.mk.injEq] at H
   obtain ⟨rfl, rfl, rfl, rfl⟩ := H
   try go_wp2
   have n0_ := Ax.mk (Kd.N_drew HO_224001.out)
   have n1_ := Ax.mk (blk_drew BK222.out)
   have n2_ := Ax.mk (blk_drew BK223.out)
   have n3_ := Ax.mk (below_drew1 HB.out)
   clear HO_224001
   clear BK222
   clear BK223
   clear HB
   have HO_224001 := n0_
   have BK222 := n1_
   have BK223 := n2_
   have HB := n3_
   clear n0_ n1_ n2_ n3_
   obtain ⟨Ao65, co65, eo65⟩ := Kd.N_slice HO_224001.out
   (first | subst eo65 | (injection eo65 with f1_ f2_ f3_; have f4_ := f1_.symm; have f5_ := f3_.symm; clear f1_ f2_ f3_; subst f4_; subst f5_))
   refine start_ (n := 6) (S := fun w' => w'.cell? ⟨gb223, 0, none⟩ = some (.int .u64 x224000_2) ∧ w'.cell? ⟨gb223, 1, none⟩ = some (.slice Ao65 x224001_2.length co65) ∧ w'.cell? ⟨gb223, 2, none⟩ = some (.string x224002_2)) (ds := []) (TF 0 6) (by kernel_rfl) rfl rfl ⟨(bC BK223.out 0).trans rfl, (bC BK223.out 1).trans rfl, (bC BK223.out 2).trans rfl⟩ (fun hHeld => ?_)
   generalize wc.drew = w63 at HO_224001 BK222 BK223 HB hHeld ⊢
   refine pure_ (i := 1) (N := some 71) (v := ?_) (a' := ?_) (BT 6 2) rfl rfl (by kernel_rfl) (fun _ _ _ h => h) (Or.inl ⟨by rfl, ?_⟩) ?_ ?_
   rotate_left; · intro w'; go_simp; with_reducible rfl
   rotate_left; · simp only [Act.put, sI, sZ, sS, i64_w, i32_w]; rfl
   refine take_ (i := 0) (N := some 70) (v := ?_) (a' := ?_) (TF 2 4) rfl rfl (by kernel_rfl) (fun _ _ _ h => h) (Or.inl ⟨by rfl, ?_⟩) hHeld ?_ ?_
   rotate_left
   ·rintro w' ⟨s0, s1, s2⟩
    go_simp
    with_reducible rfl
   rotate_left
   ·simp only [Act.put, sI, sZ, sS, i64_w, i32_w]
    rfl
   refine take_ (i := 2) (N := some 72) (v := ?_) (a' := ?_) (TF 3 3) rfl rfl (by kernel_rfl) (fun _ _ _ h => h) (Or.inl ⟨by rfl, ?_⟩) hHeld ?_ ?_
   rotate_left
   ·rintro w' ⟨s0, s1, s2⟩
    go_simp
    with_reducible rfl
   rotate_left
   ·simp only [Act.put, sI, sZ, sS, i64_w, i32_w]
    rfl
   refine pure_ (i := 3) (N := some 73) (v := ?_) (a' := ?_) (TF 4 2) rfl rfl (by kernel_rfl) (fun _ _ _ h => h) (Or.inl ⟨by rfl, ?_⟩) ?_ ?_
   rotate_left; · intro w'; go_simp; with_reducible rfl
   rotate_left; · simp only [Act.put, sI, sZ, sS, i64_w, i32_w]; rfl
   refine one_ (i := 4) (N := none) (TF 5 1) rfl rfl (by kernel_rfl) (by decide) (fun K hK => ?_)
   have hs64 : w63.cell? ⟨gb222, 0, none⟩ = some (.int .u64 0) := (bC BK222.out 0).trans rfl
   have hfs64 := bF BK222.out 0
   have hns64_1 := NB223_222.out
   have hms64_1 := NB222_223.out
   have hs66 : w63.cell? ⟨gb222, 1, none⟩ = some (.slice none 0 0) := (bC BK222.out 1).trans rfl
   have hfs66 := bF BK222.out 1
   have hns66_1 := NB223_222.out
   have hms66_1 := NB222_223.out
   have hs67 : w63.cell? ⟨gb222, 2, none⟩ = some (.string (⟨#[]⟩ : ByteArray)) := (bC BK222.out 2).trans rfl
   have hfs67 := bF BK222.out 2
   have hns67_1 := NB223_222.out
   have hms67_1 := NB222_223.out
   refine skip_ (w1 := ?_) (by rfl) rfl ?_ ?_
   rotate_left
   ·go_simp
    rfl
   refine hK.out _ _ ⟨((cell_far (p := ⟨gb222, _, none⟩) NB223_222.out _).trans (((cell_far (p := ⟨gb222, _, none⟩) NB223_222.out _).trans (((cell_far (p := ⟨gb222, _, none⟩) NB223_222.out _).trans (hHeld.1)))))), ((cell_far (p := ⟨gb222, _, none⟩) NB223_222.out _).trans (((cell_far (p := ⟨gb222, _, none⟩) NB223_222.out _).trans (((cell_far (p := ⟨gb222, _, none⟩) NB223_222.out _).trans (hHeld.2.1)))))), ((cell_far (p := ⟨gb222, _, none⟩) NB223_222.out _).trans (((cell_far (p := ⟨gb222, _, none⟩) NB223_222.out _).trans (((cell_far (p := ⟨gb222, _, none⟩) NB223_222.out _).trans (hHeld.2.2))))))⟩ (fun hHeld => ?_)
   clear hK K
   refine pure_ (i := 5) (N := some 3) (v := ?_) (a' := ?_) (TF 6 0) rfl rfl (by kernel_rfl) (fun _ _ _ h => h) (Or.inl ⟨by rfl, ?_⟩) ?_ ?_
   rotate_left; · intro w'; go_simp; with_reducible rfl
   rotate_left; · simp only [Act.put, sI, sZ, sS, i64_w, i32_w]; rfl
   refine done_ (by kernel_rfl) ?_
   try go_wp2
   refine bodyPost_ret (results_ct rfl _ _ gb222 66 #[.int .u64 x224000_2, .slice Ao65 x224001_2.length co65, .string x224002_2] (0, 0) _ rfl (by refine bT ?_; refine bU (cs := #[.int .u64 x224000_2, .slice Ao65 x224001_2.length co65, .string (⟨#[]⟩ : ByteArray)]) ?_ 2 _ rfl; refine bT ?_; refine bU (cs := #[.int .u64 x224000_2, .slice none 0 0, .string (⟨#[]⟩ : ByteArray)]) ?_ 1 _ rfl; refine bT ?_; refine bU (cs := #[.int .u64 0, .slice none 0 0, .string (⟨#[]⟩ : ByteArray)]) ?_ 0 _ rfl; exact bT BK222.out) Tryd.underlying66 rfl (by kernel_rfl)) rfl ?_
   exact ⟨_, by first | rfl | (simp [errW_none, errW_some] <;> rfl) | (simp [*, errW_none, errW_some] <;> rfl), by apply Kd.N_to; exact Kd.N_mono (Kd.N_far (p := ⟨gb222, 2, none⟩) (Kd.N_far (p := ⟨gb222, 1, none⟩) (Kd.N_far (p := ⟨gb222, 0, none⟩) (Kd.N_mono HO_224001.out (fun k_ hk => (⟨hk, hk.2.1⟩ : _ ∧ k_ ≠ gb222))) (fun _ hk => hk.2) (.int .u64 x224000_2)) (fun _ hk => hk.2) (.slice Ao65 x224001_2.length co65)) (fun _ hk => hk.2) (.string x224002_2)) (fun _ hk => hk.1.1), bA⟩
mutual
def r13_Read.j3 : Nat → Int → List (S46) → ByteArray → Option (Int × (List (S46)) × ByteArray × Int)
 | 0, _, _, _ => none
 | k + 1, x302000, x302001, x302002 => some (x302000, x302001, x302002, (x302002.size : Int))
def r13_Read.l0 : Nat → List (S26) → List (S26) → Int → Int → List (S46) → ByteArray → Option (Int × (List (S46)) × ByteArray × Int)
 | 0, _, _, _, _, _, _ => none
 | k + 1, x4, x7, x8, x302000, x302001, x302002 => if x8 < (x4.length : Int) then (if 0 ≤ x8 then (if ((rd_T26 x4 x8).f0) = 8 then (if ((rd_T26 x4 x8).f1) = 0 then (if ((rd_T26 x4 x8).f2) = 0 then (if (x302001.length : Int) > 0 then (if x302000 = 18446744073709551615 then (r13_Read.j1 k x4 x7 x8 true x302000 x302001 x302002) else (r13_Read.j1 k x4 x7 x8 (((rd_T26 x4 x8).f3) != (IntKind.u64.wrap (x302000 + 1))) x302000 x302001 x302002)) else (r13_Read.j1 k x4 x7 x8 false x302000 x302001 x302002)) else (r13_Read.j1 k x4 x7 x8 true x302000 x302001 x302002)) else (r13_Read.j1 k x4 x7 x8 true x302000 x302001 x302002)) else (if x7.length < 2932031007402 then (r13_Read.j2 k x4 (x7 ++ [(⟨(rd_T26 x4 x8).f0, (rd_T26 x4 x8).f1, (rd_T26 x4 x8).f2, (rd_T26 x4 x8).f3, (rd_T26 x4 x8).f4⟩ : S26)]) x8 x302000 x302001 x302002) else (none))) else (none)) else (r13_Read.j3 k x302000 x302001 x302002)
def r13_Read.j2 : Nat → List (S26) → List (S26) → Int → Int → List (S46) → ByteArray → Option (Int × (List (S46)) × ByteArray × Int)
 | 0, _, _, _, _, _, _ => none
 | k + 1, x4, x7, x8, x302000, x302001, x302002 => r13_Read.l0 k x4 x7 (wrap64 (x8 + 1)) x302000 x302001 x302002
def r13_Read.j1 : Nat → List (S26) → List (S26) → Int → Bool → Int → List (S46) → ByteArray → Option (Int × (List (S46)) × ByteArray × Int)
 | 0, _, _, _, _, _, _, _ => none
 | k + 1, x4, x7, x8, x72, x302000, x302001, x302002 => if x72 = true then (r13_Read.j3 k x302000 x302001 x302002) else (if 0 ≤ x8 then (if x8 < (x4.length : Int) then ((r13_bytes.f k ((rd_T26 x4 x8).f3) x7).bind fun bt312 => (if x302001.length < 4398046511104 then (if x302002.size + bt312.1.size ≤ 9223372036854775807 then (r13_Read.j2 k x4 ([] : List (S26)) x8 ((rd_T26 x4 x8).f3) (x302001 ++ [(⟨(rd_T26 x4 x8).f3, x7⟩ : S46)]) (x302002 ++ bt312.1)) else (none)) else (none))) else (none)) else (none))
end
def r13_Read.f (k : Nat) (a0 : ByteArray) : Option (Int × (List (S46)) × ByteArray × Int) := (r12_Scan.f k a0).bind fun bt297 => (r13_Read.l0 k bt297.1 ([] : List (S26)) 0 0 ([] : List (S46)) (⟨#[]⟩ : ByteArray))
theorem r13_Read.mono_l : ∀ k, (∀ y0 y1 y2, LeO (r13_Read.j3 k y0 y1 y2) (r13_Read.j3 (k + 1) y0 y1 y2)) ∧ (∀ y0 y1 y2 y3 y4 y5, LeO (r13_Read.l0 k y0 y1 y2 y3 y4 y5) (r13_Read.l0 (k + 1) y0 y1 y2 y3 y4 y5)) ∧ (∀ y0 y1 y2 y3 y4 y5, LeO (r13_Read.j2 k y0 y1 y2 y3 y4 y5) (r13_Read.j2 (k + 1) y0 y1 y2 y3 y4 y5)) ∧ (∀ y0 y1 y2 y3 y4 y5 y6, LeO (r13_Read.j1 k y0 y1 y2 y3 y4 y5 y6) (r13_Read.j1 (k + 1) y0 y1 y2 y3 y4 y5 y6))
 | 0 => ⟨fun _ _ _ r h => by simp [r13_Read.j3] at h, fun _ _ _ _ _ _ r h => by simp [r13_Read.l0] at h, fun _ _ _ _ _ _ r h => by simp [r13_Read.j2] at h, fun _ _ _ _ _ _ _ r h => by simp [r13_Read.j1] at h⟩
 | k + 1 => by
  obtain ⟨ih0, ih1, ih2, ih3⟩ := r13_Read.mono_l k
  refine ⟨?_, ?_, ?_, ?_⟩
  ·intro y0 y1 y2
   unfold r13_Read.j3
   repeat' first
   | (with_reducible exact LeO.refl _)
   | (with_reducible exact LeO.none _)
   | (with_reducible refine LeO.ite ?_ ?_)
   | (with_reducible refine LeO.bind ?_ (fun _ => ?_))
   | exact LeO.none _
   | refine LeO.ite ?_ ?_
   | refine LeO.bind ?_ (fun _ => ?_)
  ·intro y0 y1 y2 y3 y4 y5
   unfold r13_Read.l0
   repeat' first
   | (with_reducible exact ih0 _ _ _)
   | (with_reducible exact ih2 _ _ _ _ _ _)
   | (with_reducible exact ih3 _ _ _ _ _ _ _)
   | (with_reducible exact LeO.refl _)
   | (with_reducible exact LeO.none _)
   | (with_reducible refine LeO.ite ?_ ?_)
   | (with_reducible refine LeO.bind ?_ (fun _ => ?_))
   | exact ih0 _ _ _
   | exact ih2 _ _ _ _ _ _
   | exact ih3 _ _ _ _ _ _ _
   | exact LeO.none _
   | refine LeO.ite ?_ ?_
   | refine LeO.bind ?_ (fun _ => ?_)
  ·intro y0 y1 y2 y3 y4 y5
   unfold r13_Read.j2
   repeat' first
   | (with_reducible exact ih1 _ _ _ _ _ _)
   | (with_reducible exact LeO.refl _)
   | (with_reducible exact LeO.none _)
   | (with_reducible refine LeO.ite ?_ ?_)
   | (with_reducible refine LeO.bind ?_ (fun _ => ?_))
   | exact ih1 _ _ _ _ _ _
   | exact LeO.none _
   | refine LeO.ite ?_ ?_
   | refine LeO.bind ?_ (fun _ => ?_)
  ·intro y0 y1 y2 y3 y4 y5 y6
   unfold r13_Read.j1
   repeat' first
   | (with_reducible exact ih0 _ _ _)
   | (with_reducible exact ih2 _ _ _ _ _ _)
   | (with_reducible exact r13_bytes.mono _ _ _)
   | (with_reducible exact LeO.refl _)
   | (with_reducible exact LeO.none _)
   | (with_reducible refine LeO.ite ?_ ?_)
   | (with_reducible refine LeO.bind ?_ (fun _ => ?_))
   | exact ih0 _ _ _
   | exact ih2 _ _ _ _ _ _
   | exact r13_bytes.mono _ _ _
   | exact LeO.none _
   | refine LeO.ite ?_ ?_
   | refine LeO.bind ?_ (fun _ => ?_)
theorem r13_Read.mono : ∀ a0 k, LeO (r13_Read.f k a0) (r13_Read.f (k + 1) a0) := by
 intro a0 k
 obtain ⟨ih0, ih1, ih2, ih3⟩ := r13_Read.mono_l k
 unfold r13_Read.f
 repeat' first
   | (with_reducible exact ih0 _ _ _)
   | (with_reducible exact ih1 _ _ _ _ _ _)
   | (with_reducible exact ih2 _ _ _ _ _ _)
   | (with_reducible exact ih3 _ _ _ _ _ _ _)
   | (with_reducible exact r12_Scan.mono _ _)
   | (with_reducible exact r13_bytes.mono _ _ _)
   | (with_reducible exact LeO.refl _)
   | (with_reducible exact LeO.none _)
   | (with_reducible refine LeO.ite ?_ ?_)
   | (with_reducible refine LeO.bind ?_ (fun _ => ?_))
   | exact ih0 _ _ _
   | exact ih1 _ _ _ _ _ _
   | exact ih2 _ _ _ _ _ _
   | exact ih3 _ _ _ _ _ _ _
   | exact r12_Scan.mono _ _
   | exact r13_bytes.mono _ _ _
   | exact LeO.none _
   | refine LeO.ite ?_ ?_
   | refine LeO.bind ?_ (fun _ => ?_)
def r13_Read.T9 : Bool × List (List Nat × List Nat) := (true, [([], []), ([], []), ([0, 1], [0, 1]), ([2], [2]), ([3], [3]), ([4], [4]), ([5], [5]), ([6], [6]), ([6], [6]), ([7, 8, 6], [6, 7, 8]), ([9, 6], [6, 9]), ([10, 6], [6, 10]), ([11, 6], [6, 11]), ([6, 12], [6, 12]), ([13, 6], [13]), ([14], [14]), ([15, 14], [14, 15]), ([16, 14], [14, 16]), ([17, 14], [14, 17]), ([18, 14, 14], [14, 18]), ([19], [19]), ([20, 19], [19, 20]), ([21, 19], [19, 21]), ([22, 19, 19], [19, 22]), ([23], [23]), ([23], [23]), ([24, 25, 23], [23, 24, 25]), ([26, 23], [23, 26]), ([27, 23], [23, 27]), ([23], [23]), ([29, 23], [23, 29]), ([30, 23], [23, 30]), ([28, 31, 23], [23, 28, 31]), ([23, 32, 19], [19, 23, 32]), ([19, 33, 14], [14, 19, 33]), ([14, 34], [14, 34])])
def r13_Read.B9 : List Nat := [0, 0, 3, 7, 15, 31, 63, 127, 127, 511, 1023, 2047, 4095, 8191, 16383, 32767, 65535, 131071, 262143, 524287, 1048575, 2097151, 4194303, 8388607, 16777215, 16777215, 67108863, 134217727, 268435455, 16777215, 553648127, 1627389951, 4294967295, 8589934591, 17179869183, 34359738367]
theorem r13_Read.tab9 : rtab .any (opsOf Tryd.f45 9) = r13_Read.T9 := by kernel_rfl
theorem r13_Read.bits9 : waitsOk r13_Read.T9.2 r13_Read.B9 = true := by kernel_rfl
set_option maxHeartbeats 8000000 in
set_option maxRecDepth 100000 in
theorem r13_Read.calls (k : Nat) (a0 : ByteArray) (r1 : Int) (r2 : List (S46)) (r3 : ByteArray) (r4 : Int) (w : World) (h : r13_Read.f k a0 = some (r1, r2, r3, r4)) :
  Calls Tryd.prog 45 #[.string a0] w fun e w' => ∃ v1_ : Value, e = .returned (.tuple #[.agg #[.int .u64 r1, v1_, .string r3], .int .i64 r4]) ∧ Kd.S k46 46 w' w.heap.size (fun _ => True) v1_ r2 ∧ Below w.heap.size w w' := by
 have hu68 := Tryd.underlying68
 have hu26 := Tryd.underlying26
 have hu46 := Tryd.underlying46
 have HB := Ax.mk (Below.refl w.heap.size w)
 have H : ((r12_Scan.f k a0).bind fun bt297 => (r13_Read.l0 k bt297.1 ([] : List (S26)) 0 0 ([] : List (S46)) (⟨#[]⟩ : ByteArray))) = some (r1, r2, r3, r4) := h
 clear h
 replace H := Option.bind_eq_some_iff.mp H
 obtain ⟨⟨t297, t298⟩, A20, H⟩ := H
 replace H : (r13_Read.l0 k t297 ([] : List (S26)) 0 0 ([] : List (S46)) (⟨#[]⟩ : ByteArray)) = some (r1, r2, r3, r4) := H
 have A2 := Ax.mk A20
 clear A20
 have HC3 := Ax.mk H
 clear H
 go_enter Tryd.func45, Tryd.ntmps45
 go_upto_block 0 with (first | ((with_reducible refine gate_dst (N := 2) rfl ?_); (try (refine gate_guard (by rfl) ?_; dsimp only)); refine box_event ?hg (N := 2) ?hd (cs := #[.int .u64 0, .slice none 0 0, .string (⟨#[]⟩ : ByteArray)]) (t := 68) ?hr ?_; (case hd => rfl); (case hg => rfl); (case hr => first | (go_simp; done) | (go_simp; rfl)); intro gb296 hg w4 hbox hb; have n0_ := Ax.mk (bP bA hb); have n1_ := Ax.mk (hbox); have n2_ := Ax.mk ((ge_new hg : w.heap.size ≤ gb296)); have n3_ := n2_; clear HB; have HB := n0_; have BK296 := n1_; have GW296 := n2_; have GE296 := n3_; clear n0_ n1_ n2_ n3_; clear hb hbox hg) | ((with_reducible refine gate_callee (f := 30) rfl ?_); refine goesL_ (some 14) rfl rfl Tryd.func30 (by kernel_rfl) rfl #[.string a0] rfl (by (try simp only [List.map_toArray, List.map_cons, List.map_nil]); first | done | rfl | (simp only [List.length_drop, List.length_take]; rfl) | (rw [wrap_sum2 (by assumption)]; rfl)) ?_; (with_reducible refine (r12_Scan.calls k a0 t297 t298 _ A2.out).mono ?_); rintro e w5 ⟨v299, rfl, ho0, hb⟩; refine ⟨_, rfl, ?_⟩; have n0_ := Ax.mk (Kd.R_lower ho0 (bS bA)); have n1_ := Ax.mk (bB (bT BK296.out) hb); have n2_ := Ax.mk (bP bA hb); clear BK296; clear HB; have HO300 := n0_; have BK296 := n1_; have HB := n2_; clear n0_ n1_ n2_; (try clear hb); (try clear hb2); (try clear hk); (try clear hi); (try clear ho0)) | ((with_reducible refine gate_dst (N := 6) rfl ?_); (try (refine gate_guard (by rfl) ?_; dsimp only)); refine box_event ?hg (N := 6) ?hd (cs := #[.int .u64 0, .slice none 0 0, .string (⟨#[]⟩ : ByteArray)]) (t := 68) ?hr ?_; (case hd => rfl); (case hg => rfl); (case hr => first | (go_simp; done) | (go_simp; rfl)); intro gb301 hg w6 hbox hb; have n0_ := Ax.mk (Kd.R_below (by exact Kd.R_to HO300.out) hb); have n1_ := Ax.mk (bB (bT BK296.out) hb); have n2_ := Ax.mk (bP bA hb); have n3_ := Ax.mk (hbox); have n4_ := Ax.mk ((ge_new hg : w.heap.size ≤ gb301)); have n5_ := n4_; have n6_ := Ax.mk ((ne_lt hg BK296.out : gb296 ≠ gb301)); have n7_ := Ax.mk ((ne_gt hg BK296.out : gb301 ≠ gb296)); clear HO300; clear BK296; clear HB; have HO300 := n0_; have BK296 := n1_; have HB := n2_; have BK301 := n3_; have GW301 := n4_; have GE301 := n5_; have NB296_301 := n6_; have NB301_296 := n7_; clear n0_ n1_ n2_ n3_ n4_ n5_ n6_ n7_; clear hb hbox hg; have hnb7 := NB301_296.out; have hnc7 := NB296_301.out; have hcz8_0 : w6.cell? ⟨gb301, 0, none⟩ = some (.int .u64 0) := (bC BK301.out 0).trans rfl; have hcz8_1 : w6.cell? ⟨gb301, 1, none⟩ = some (.slice none 0 0) := (bC BK301.out 1).trans rfl; have hcz8_2 : w6.cell? ⟨gb301, 2, none⟩ = some (.string (⟨#[]⟩ : ByteArray)) := (bC BK301.out 2).trans rfl; have hfz8_0 := bF BK301.out 0; have hfz8_1 := bF BK301.out 1; have hfz8_2 := bF BK301.out 2))
 (try simp only [Act.put, sI, sZ, sS])
 go_cut [] (fun wc => ∃ (kq : Nat) (x302000_2 : Int) (x302001_2 : List (S46)) (x302002_2 : ByteArray) (u302001 : Value), Ax (r13_Read.j3 kq x302000_2 x302001_2 x302002_2 = some (r1, r2, r3, r4)) ∧ Ax (kq ≤ k) ∧ Ax (Kd.S k46 46 wc w.heap.size (fun _ => True) u302001 x302001_2) ∧ Ax (wc.heap[gb296]? = some (.cells #[.int .u64 0, (.slice none 0 0), .string (⟨#[]⟩ : ByteArray)] 68 (0, 0))) ∧ Ax (wc.heap[gb301]? = some (.cells #[.int .u64 x302000_2, u302001, .string x302002_2] 68 (0, 0))) ∧ Ax (Below w.heap.size w wc))
 case first =>
  have H := HC3.out
  clear HC3
  have H' := Ax.mk H
  clear H
  go_wp2
  go_loopg [7, 8] k (fun kq v7 v8 w' => ∃ (x7_1 : List (S26)) (x8_1 : Int) (x302000_1 : Int) (x302001_1 : List (S46)) (x302002_1 : ByteArray) (u302001 : Value), v8 = .int .i64 x8_1 ∧ Ax (r13_Read.l0 kq t297 x7_1 x8_1 x302000_1 x302001_1 x302002_1 = some (r1, r2, r3, r4)) ∧ Ax (kq ≤ k) ∧ Ax (Kd.R k26 26 w' w.heap.size (fun k_ => some k_ ≠ (v7 : Value).ownBlock) v299 t297) ∧ Ax (Kd.R k26 26 w' w.heap.size (fun k_ => some k_ ≠ (v299 : Value).ownBlock) v7 x7_1) ∧ Ax (Kd.S k46 46 w' w.heap.size (fun k_ => some k_ ≠ (v299 : Value).ownBlock ∧ some k_ ≠ (v7 : Value).ownBlock) u302001 x302001_1) ∧ Ax (w'.heap[gb296]? = some (.cells #[.int .u64 0, (.slice none 0 0), .string (⟨#[]⟩ : ByteArray)] 68 (0, 0))) ∧ Ax (w'.heap[gb301]? = some (.cells #[.int .u64 x302000_1, u302001, .string x302002_1] 68 (0, 0))) ∧ Ax (Below w.heap.size w w'))
  case atStart => exact ⟨(([] : List (S26))), (0), (0), (([] : List (S46))), ((⟨#[]⟩ : ByteArray)), (.slice none 0 0), (by first | rfl | (simp; done) | (simp [*]; done)), H', ⟨Nat.le_refl _⟩, ⟨by apply Kd.R_to; exact Kd.R_mono (Kd.R_far (p := ⟨gb301, 2, none⟩) (Kd.R_far (p := ⟨gb301, 1, none⟩) (Kd.R_far (p := ⟨gb301, 0, none⟩) (Kd.R_types HO300.out BK301.out (by decide)) (fun _ hk => hk.2) (.int .u64 0)) (fun _ hk => hk.2) (.slice none 0 0)) (fun _ hk => hk.2) (.string (⟨#[]⟩ : ByteArray))) (fun _ hk => (by simp [Value.ownBlock]))⟩, ⟨by first | exact Kd.R_nil _ _ _ _ _ | exact Kd.N_nil _ _ _ _ _ | exact Kd.V_nil _ _ _ _ _ | exact Kd.Q_nil _ _ _ _ _ | exact Kd.S_nil _ _ _ _ _⟩, ⟨by first | exact Kd.S_nil _ _ _ _ _ | exact Kd.N_nil _ _ _ _ _ | exact Kd.V_nil _ _ _ _ _ | exact Kd.Q_nil _ _ _ _ _ | exact Kd.R_nil _ _ _ _ _⟩, ⟨by refine bT ?_; refine bR ?_ NB296_301.out _; refine bT ?_; refine bR ?_ NB296_301.out _; refine bT ?_; refine bR ?_ NB296_301.out _; refine bT ?_; exact BK296.out⟩, ⟨by refine bT ?_; refine bU (cs := #[.int .u64 0, .slice none 0 0, .string (⟨#[]⟩ : ByteArray)]) ?_ 2 _ rfl; refine bT ?_; refine bU (cs := #[.int .u64 0, .slice none 0 0, .string (⟨#[]⟩ : ByteArray)]) ?_ 1 _ rfl; refine bT ?_; refine bU (cs := #[.int .u64 0, .slice none 0 0, .string (⟨#[]⟩ : ByteArray)]) ?_ 0 _ rfl; refine bT ?_; exact BK301.out⟩, ⟨bA⟩⟩
  case round =>
   clear H'
   try clear p2
   try clear c3
   try clear c4
   try clear c7
   try clear hcz8_0
   try clear hcz8_1
   try clear hcz8_2
   try clear hfz8_0
   try clear hfz8_1
   try clear hfz8_2
   obtain ⟨x7_1, x8_1, x302000_1, x302001_1, x302002_1, u302001, rfl, HA, HK1, HO_4, HO_7, HO_302001, BK296, BK301, HB⟩ := hrel
   cases gk with
   | zero => exact absurd HA.out (by simp [r13_Read.l0])
   | succ k1 =>
    have H := HA.out
    clear HA
    simp only [r13_Read.l0] at H
    by_cases c9 : x8_1 < (t297.length : Int)
    ·rw [if_pos c9] at H
     have c9b0 : decide (x8_1 < (t297.length : Int)) = true := decide_eq_true c9
     clear c9
     (first | rw [c9b0] | (simp only [i64_w, i32_w]; rw [c9b0]) | skip)
     have HC10 := Ax.mk H
     clear H
     obtain ⟨Ao11, co11, eo11⟩ := Kd.R_slice HO_4.out
     subst eo11
     go_upto_block 1 with (fail)
     go_cut [7] (fun v7 wc => ∃ (kq : Nat) (x7_9 : List (S26)) (x302000_9 : Int) (x302001_9 : List (S46)) (x302002_9 : ByteArray) (u302001 : Value), Ax (r13_Read.j2 kq t297 x7_9 x8_1 x302000_9 x302001_9 x302002_9 = some (r1, r2, r3, r4)) ∧ Ax (kq ≤ k1) ∧ Ax (Kd.R k26 26 wc w.heap.size (fun k_ => some k_ ≠ (v7 : Value).ownBlock) (.slice Ao11 t297.length co11) t297) ∧ Ax (Kd.R k26 26 wc w.heap.size (fun k_ => some k_ ≠ ((.slice Ao11 t297.length co11) : Value).ownBlock) v7 x7_9) ∧ Ax (Kd.S k46 46 wc w.heap.size (fun k_ => some k_ ≠ ((.slice Ao11 t297.length co11) : Value).ownBlock ∧ some k_ ≠ (v7 : Value).ownBlock) u302001 x302001_9) ∧ Ax (wc.heap[gb296]? = some (.cells #[.int .u64 0, (.slice none 0 0), .string (⟨#[]⟩ : ByteArray)] 68 (0, 0))) ∧ Ax (wc.heap[gb301]? = some (.cells #[.int .u64 x302000_9, u302001, .string x302002_9] 68 (0, 0))) ∧ Ax (Below w.heap.size w wc))
     case first =>
      have H := HC10.out
      clear HC10
      by_cases c12 : 0 ≤ x8_1
      ·rw [if_pos c12] at H
       have c12b0 : decide (0 ≤ x8_1) = true := decide_eq_true c12
       clear c12
       (first | rw [c12b0] | (simp only [i64_w, i32_w]; rw [c12b0]) | skip)
       by_cases c13 : ((rd_T26 t297 x8_1).f0) = 8
       ·rw [if_pos c13] at H
        have c13b0 : (((rd_T26 t297 x8_1).f0) == 8) = true := beq_iff_eq.mpr c13
        have c13b1 : (((rd_T26 t297 x8_1).f0) != 8) = false := bne_eq_false_iff_eq.mpr c13
        clear c13
        have HC14 := Ax.mk H
        clear H
        have p302 : 0 ≤ (x8_1 : Int) := ofD
        have q302 : x8_1 < (t297.length : Int) := ofD
        obtain ⟨ad302, e302, hx302_0, hx302_1, hx302_2, hx302_3, hx302_4⟩ := at_T26 (Kd.R_reads' HO_4.out).2.2 x8_1 p302 q302
        cases e302
        replace p302 := eq_true p302
        replace q302 := eq_true q302
        go_upto_region 9 with (fail)
        go_cut [72] (fun v72 wc => ∃ (kq : Nat) (x72_13 : Bool), v72 = .bool x72_13 ∧ Ax (r13_Read.j1 kq t297 x7_1 x8_1 x72_13 x302000_1 x302001_1 x302002_1 = some (r1, r2, r3, r4)) ∧ Ax (kq ≤ k1) ∧ Ax (Kd.R k26 26 wc w.heap.size (fun k_ => some k_ ≠ (u7 : Value).ownBlock) (.slice (some ad302) t297.length co11) t297) ∧ Ax (Kd.R k26 26 wc w.heap.size (fun k_ => some k_ ≠ ((.slice (some ad302) t297.length co11) : Value).ownBlock) u7 x7_1) ∧ Ax (Kd.S k46 46 wc w.heap.size (fun k_ => some k_ ≠ ((.slice (some ad302) t297.length co11) : Value).ownBlock ∧ some k_ ≠ (u7 : Value).ownBlock) u302001 x302001_1) ∧ Ax (wc.heap[gb296]? = some (.cells #[.int .u64 0, (.slice none 0 0), .string (⟨#[]⟩ : ByteArray)] 68 (0, 0))) ∧ Ax (wc.heap[gb301]? = some (.cells #[.int .u64 x302000_1, u302001, .string x302002_1] 68 (0, 0))) ∧ Ax (Below w.heap.size w wc))
        case first =>
         have H := HC14.out
         clear HC14
         by_cases c15 : ((rd_T26 t297 x8_1).f1) = 0
         ·rw [if_pos c15] at H
          have c15b0 : (((rd_T26 t297 x8_1).f1) == 0) = true := beq_iff_eq.mpr c15
          have c15b1 : (((rd_T26 t297 x8_1).f1) != 0) = false := bne_eq_false_iff_eq.mpr c15
          clear c15
          (first | rw [c15b0] | (simp only [i64_w, i32_w]; rw [c15b0]) | skip)
          by_cases c16 : ((rd_T26 t297 x8_1).f2) = 0
          ·rw [if_pos c16] at H
           have c16b0 : (((rd_T26 t297 x8_1).f2) == 0) = true := beq_iff_eq.mpr c16
           have c16b1 : (((rd_T26 t297 x8_1).f2) != 0) = false := bne_eq_false_iff_eq.mpr c16
           clear c16
           by_cases c17 : (x302001_1.length : Int) > 0
           ·rw [if_pos c17] at H
            have c17b0 : decide (0 < (x302001_1.length : Int)) = true := decide_eq_true c17
            have c17b1 : decide (0 < x302001_1.length) = true := decide_eq_true (by omega)
            clear c17
            by_cases c18 : x302000_1 = 18446744073709551615
            ·rw [if_pos c18] at H
             have c18b0 : (x302000_1 == 18446744073709551615) = true := beq_iff_eq.mpr c18
             have c18b1 : (x302000_1 != 18446744073709551615) = false := bne_eq_false_iff_eq.mpr c18
             clear c18
             have H' := Ax.mk H
             clear H
             try go_wp2
             have n0_ := Ax.mk (Kd.R_drew HO_4.out)
             have n1_ := Ax.mk (Kd.R_drew HO_7.out)
             have n2_ := Ax.mk (Kd.S_drew HO_302001.out)
             have n3_ := Ax.mk (blk_drew BK296.out)
             have n4_ := Ax.mk (blk_drew BK301.out)
             have n5_ := Ax.mk (below_drew1 HB.out)
             clear HO_4
             clear HO_7
             clear HO_302001
             clear BK296
             clear BK301
             clear HB
             have HO_4 := n0_
             have HO_7 := n1_
             have HO_302001 := n2_
             have BK296 := n3_
             have BK301 := n4_
             have HB := n5_
             clear n0_ n1_ n2_ n3_ n4_ n5_
             have p307 : 0 ≤ (x8_1 : Int) := ofD
             have q307 : x8_1 < (t297.length : Int) := ofD
             obtain ⟨ad307, e307, hx307_0, hx307_1, hx307_2, hx307_3, hx307_4⟩ := at_T26 (Kd.R_reads' HO_4.out).2.2 x8_1 p307 q307
             obtain rfl : ad302 = ad307 := (by injection e307)
             replace p307 := eq_true p307
             replace q307 := eq_true q307
             have p308 : 0 ≤ (x8_1 : Int) := ofD
             have q308 : x8_1 < (t297.length : Int) := ofD
             obtain ⟨ad308, e308, hx308_0, hx308_1, hx308_2, hx308_3, hx308_4⟩ := at_T26 (Kd.R_reads' HO_4.out).2.2 x8_1 p308 q308
             obtain rfl : ad302 = ad308 := (by injection e308)
             replace p308 := eq_true p308
             replace q308 := eq_true q308
             obtain ⟨Ao20, co20, eo20⟩ := Kd.S_slice HO_302001.out
             (first | subst eo20 | (injection eo20 with f1_ f2_ f3_; have f4_ := f1_.symm; have f5_ := f3_.symm; clear f1_ f2_ f3_; subst f4_; subst f5_))
             refine start_ (n := 36) (S := fun w' => w'.cell? ⟨gb301, 0, none⟩ = some (.int .u64 x302000_1) ∧ w'.cell? ⟨gb301, 1, none⟩ = some (.slice Ao20 x302001_1.length co20) ∧ w'.cell? ⟨gb301, 2, none⟩ = some (.string x302002_1) ∧ w'.cell? (ad302.add ((x8_1).toNat * 5)) = some (.int .i64 ((rd_T26 t297 x8_1).f0)) ∧ w'.cell? ⟨(ad302.add ((x8_1).toNat * 5)).block, (ad302.add ((x8_1).toNat * 5)).off + 1, none⟩ = some (.int .i64 ((rd_T26 t297 x8_1).f1)) ∧ w'.cell? ⟨(ad302.add ((x8_1).toNat * 5)).block, (ad302.add ((x8_1).toNat * 5)).off + 2, none⟩ = some (.int .i64 ((rd_T26 t297 x8_1).f2)) ∧ w'.cell? ⟨(ad302.add ((x8_1).toNat * 5)).block, (ad302.add ((x8_1).toNat * 5)).off + 3, none⟩ = some (.int .u64 ((rd_T26 t297 x8_1).f3)) ∧ w'.cell? ⟨(ad302.add ((x8_1).toNat * 5)).block, (ad302.add ((x8_1).toNat * 5)).off + 4, none⟩ = some (.string ((rd_T26 t297 x8_1).f4)) ∧ w'.cell? (ad302.add ((x8_1).toNat * 5)) = some (.int .i64 ((rd_T26 t297 x8_1).f0)) ∧ w'.cell? ⟨(ad302.add ((x8_1).toNat * 5)).block, (ad302.add ((x8_1).toNat * 5)).off + 1, none⟩ = some (.int .i64 ((rd_T26 t297 x8_1).f1)) ∧ w'.cell? ⟨(ad302.add ((x8_1).toNat * 5)).block, (ad302.add ((x8_1).toNat * 5)).off + 2, none⟩ = some (.int .i64 ((rd_T26 t297 x8_1).f2)) ∧ w'.cell? ⟨(ad302.add ((x8_1).toNat * 5)).block, (ad302.add ((x8_1).toNat * 5)).off + 3, none⟩ = some (.int .u64 ((rd_T26 t297 x8_1).f3)) ∧ w'.cell? ⟨(ad302.add ((x8_1).toNat * 5)).block, (ad302.add ((x8_1).toNat * 5)).off + 4, none⟩ = some (.string ((rd_T26 t297 x8_1).f4))) (ds := []) (TF 0 36) (by kernel_rfl) rfl rfl ⟨(bC BK301.out 0).trans rfl, (bC BK301.out 1).trans rfl, (bC BK301.out 2).trans rfl, hx307_0, hx307_1, hx307_2, hx307_3, hx307_4, hx308_0, hx308_1, hx308_2, hx308_3, hx308_4⟩ (fun hHeld => ?_); refine with_tabW r13_Read.tab9 r13_Read.bits9 (fun HT_ HW_ => ?_)
             generalize wr.drew = w19 at HO_4 HO_7 HO_302001 BK296 BK301 HB hx307_0 hx307_1 hx307_2 hx307_3 hx307_4 hx308_0 hx308_1 hx308_2 hx308_3 hx308_4 hHeld ⊢
             refine pure_ (i := 0) (N := some 37) (v := ?_) (a' := ?_) (TF 1 35) rfl rfl (any_of HT_.out (by kernel_rfl)) (fun _ _ _ h => h) (Or.inl ⟨by rfl, ?_⟩) ?_ ?_
             rotate_left; · intro w'; go_simp; with_reducible rfl
             rotate_left; · simp only [Act.put, sI, sZ, sS, i64_w, i32_w]; rfl
             refine pure_ (i := 1) (N := some 38) (v := ?_) (a' := ?_) (TF 2 34) rfl rfl (any_of HT_.out (by kernel_rfl)) (fun _ _ _ h => h) (Or.inl ⟨by rfl, ?_⟩) ?_ ?_
             rotate_left; · intro w'; go_simp; with_reducible rfl
             rotate_left; · simp only [Act.put, sI, sZ, sS, i64_w, i32_w]; rfl
             refine pure_ (i := 2) (N := some 39) (v := ?_) (a' := ?_) (TF 3 33) rfl rfl (any_of HT_.out (by kernel_rfl)) (fun _ _ _ h => h) (Or.inl ⟨by rfl, ?_⟩) ?_ ?_
             rotate_left; · intro w'; go_simp; with_reducible rfl
             rotate_left; · simp only [Act.put, sI, sZ, sS, i64_w, i32_w]; rfl
             refine pure_ (i := 3) (N := some 40) (v := ?_) (a' := ?_) (TF 4 32) rfl rfl (any_of HT_.out (by kernel_rfl)) (fun _ _ _ h => h) (Or.inl ⟨by rfl, ?_⟩) ?_ ?_
             rotate_left; · intro w'; go_simp; with_reducible rfl
             rotate_left; · simp only [Act.put, sI, sZ, sS, i64_w, i32_w]; rfl
             refine take_ (i := 4) (N := some 41) (v := ?_) (a' := ?_) (TF 5 31) rfl rfl (take_ofW HT_.out HW_.out (by kernel_rfl)) (fun _ _ _ h => h) (Or.inl ⟨by rfl, ?_⟩) hHeld ?_ ?_
             rotate_left
             ·rintro w' ⟨s0, s1, s2, s3, s4, s5, s6, s7, s8, s9, s10, s11, s12⟩
              go_simp
              with_reducible rfl
             rotate_left
             ·simp only [Act.put, sI, sZ, sS, i64_w, i32_w]
              rfl
             refine pure_ (i := 5) (N := some 42) (v := ?_) (a' := ?_) (TF 6 30) rfl rfl (any_of HT_.out (by kernel_rfl)) (fun _ _ _ h => h) (Or.inl ⟨by rfl, ?_⟩) ?_ ?_
             rotate_left; · intro w'; go_simp; with_reducible rfl
             rotate_left; · simp only [Act.put, sI, sZ, sS, i64_w, i32_w]; rfl
             refine pure_ (i := 6) (N := some 43) (v := ?_) (a' := ?_) (TF 7 29) rfl rfl (any_of HT_.out (by kernel_rfl)) (fun _ _ _ h => h) (Or.inl ⟨by rfl, ?_⟩) ?_ ?_
             rotate_left; · intro w'; go_simp; with_reducible rfl
             rotate_left; · simp only [Act.put, sI, sZ, sS, i64_w, i32_w]; rfl
             refine pure_ (i := 7) (N := some 44) (v := ?_) (a' := ?_) (TF 8 28) rfl rfl (any_of HT_.out (by kernel_rfl)) (fun _ _ _ h => h) (Or.inl ⟨by rfl, ?_⟩) ?_ ?_
             rotate_left; · intro w'; go_simp; with_reducible rfl
             rotate_left; · simp only [Act.put, sI, sZ, sS, i64_w, i32_w]; rfl
             refine pure_ (i := 8) (N := some 45) (v := ?_) (a' := ?_) (TF 9 27) rfl rfl (any_of HT_.out (by kernel_rfl)) (fun _ _ _ h => h) (Or.inl ⟨by rfl, ?_⟩) ?_ ?_
             rotate_left; · intro w'; go_simp; with_reducible rfl
             rotate_left; · simp only [Act.put, sI, sZ, sS, i64_w, i32_w]; rfl
             refine pure_ (i := 9) (N := some 46) (v := ?_) (a' := ?_) (TF 10 26) rfl rfl (any_of HT_.out (by kernel_rfl)) (fun _ _ _ h => h) (Or.inl ⟨by rfl, ?_⟩) ?_ ?_
             rotate_left; · intro w'; go_simp; with_reducible rfl
             rotate_left; · simp only [Act.put, sI, sZ, sS, i64_w, i32_w]; rfl
             refine pure_ (i := 10) (N := some 47) (v := ?_) (a' := ?_) (TF 11 25) rfl rfl (any_of HT_.out (by kernel_rfl)) (fun _ _ _ h => h) (Or.inl ⟨by rfl, ?_⟩) ?_ ?_
             rotate_left; · intro w'; go_simp; with_reducible rfl
             rotate_left; · simp only [Act.put, sI, sZ, sS, i64_w, i32_w]; rfl
             refine take_ (i := 11) (N := some 48) (v := ?_) (a' := ?_) (TF 12 24) rfl rfl (take_ofW HT_.out HW_.out (by kernel_rfl)) (fun _ _ _ h => h) (Or.inl ⟨by rfl, ?_⟩) hHeld ?_ ?_
             rotate_left
             ·rintro w' ⟨s0, s1, s2, s3, s4, s5, s6, s7, s8, s9, s10, s11, s12⟩
              go_simp
              with_reducible rfl
             rotate_left
             ·simp only [Act.put, sI, sZ, sS, i64_w, i32_w]
              rfl
             refine pure_ (i := 12) (N := some 49) (v := ?_) (a' := ?_) (TF 13 23) rfl rfl (any_of HT_.out (by kernel_rfl)) (fun _ _ _ h => h) (Or.inl ⟨by rfl, ?_⟩) ?_ ?_
             rotate_left; · intro w'; go_simp; with_reducible rfl
             rotate_left; · simp only [Act.put, sI, sZ, sS, i64_w, i32_w]; rfl
             refine pure_ (i := 13) (N := some 50) (v := ?_) (a' := ?_) (TF 14 22) rfl rfl (any_of HT_.out (by kernel_rfl)) (fun _ _ _ h => h) (Or.inl ⟨by rfl, ?_⟩) ?_ ?_
             rotate_left; · intro w'; go_simp; with_reducible rfl
             rotate_left; · simp only [Act.put, sI, sZ, sS, i64_w, i32_w]; rfl
             refine pure_ (i := 14) (N := some 51) (v := ?_) (a' := ?_) (TF 15 21) rfl rfl (any_of HT_.out (by kernel_rfl)) (fun _ _ _ h => h) (Or.inl ⟨by rfl, ?_⟩) ?_ ?_
             rotate_left; · intro w'; go_simp; with_reducible rfl
             rotate_left; · simp only [Act.put, sI, sZ, sS, i64_w, i32_w]; rfl
             refine pure_ (i := 15) (N := some 52) (v := ?_) (a' := ?_) (TF 16 20) rfl rfl (any_of HT_.out (by kernel_rfl)) (fun _ _ _ h => h) (Or.inl ⟨by rfl, ?_⟩) ?_ ?_
             rotate_left; · intro w'; go_simp; with_reducible rfl
             rotate_left; · simp only [Act.put, sI, sZ, sS, i64_w, i32_w]; rfl
             refine take_ (i := 16) (N := some 53) (v := ?_) (a' := ?_) (TF 17 19) rfl rfl (take_ofW HT_.out HW_.out (by kernel_rfl)) (fun _ _ _ h => h) (Or.inl ⟨by rfl, ?_⟩) hHeld ?_ ?_
             rotate_left
             ·rintro w' ⟨s0, s1, s2, s3, s4, s5, s6, s7, s8, s9, s10, s11, s12⟩
              go_simp
              with_reducible rfl
             rotate_left
             ·simp only [Act.put, sI, sZ, sS, i64_w, i32_w]
              rfl
             refine pure_ (i := 17) (N := some 54) (v := ?_) (a' := ?_) (TF 18 18) rfl rfl (any_of HT_.out (by kernel_rfl)) (fun _ _ _ h => h) (Or.inl ⟨by rfl, ?_⟩) ?_ ?_
             rotate_left; · intro w'; go_simp; with_reducible rfl
             rotate_left; · simp only [Act.put, sI, sZ, sS, i64_w, i32_w]; rfl
             refine pure_ (i := 18) (N := some 55) (v := ?_) (a' := ?_) (TF 19 17) rfl rfl (any_of HT_.out (by kernel_rfl)) (fun _ _ _ h => h) (Or.inl ⟨by rfl, ?_⟩) ?_ ?_
             rotate_left; · intro w'; go_simp; with_reducible rfl
             rotate_left; · simp only [Act.put, sI, sZ, sS, i64_w, i32_w]; rfl
             refine pure_ (i := 19) (N := some 56) (v := ?_) (a' := ?_) (TF 20 16) rfl rfl (any_of HT_.out (by kernel_rfl)) (fun _ _ _ h => h) (Or.inl ⟨by rfl, ?_⟩) ?_ ?_
             rotate_left; · intro w'; go_simp; with_reducible rfl
             rotate_left; · simp only [Act.put, sI, sZ, sS, i64_w, i32_w]; rfl
             refine pure_ (i := 20) (N := some 57) (v := ?_) (a' := ?_) (TF 21 15) rfl rfl (any_of HT_.out (by kernel_rfl)) (fun _ _ _ h => h) (Or.inl ⟨by rfl, ?_⟩) ?_ ?_
             rotate_left; · intro w'; go_simp; with_reducible rfl
             rotate_left; · simp only [Act.put, sI, sZ, sS, i64_w, i32_w]; rfl
             refine take_ (i := 21) (N := some 58) (v := ?_) (a' := ?_) (TF 22 14) rfl rfl (take_ofW HT_.out HW_.out (by kernel_rfl)) (fun _ _ _ h => h) (Or.inl ⟨by rfl, ?_⟩) hHeld ?_ ?_
             rotate_left
             ·rintro w' ⟨s0, s1, s2, s3, s4, s5, s6, s7, s8, s9, s10, s11, s12⟩
              go_simp
              with_reducible rfl
             rotate_left
             ·simp only [Act.put, sI, sZ, sS, i64_w, i32_w]
              rfl
             refine pure_ (i := 22) (N := some 59) (v := ?_) (a' := ?_) (TF 23 13) rfl rfl (any_of HT_.out (by kernel_rfl)) (fun _ _ _ h => h) (Or.inl ⟨by rfl, ?_⟩) ?_ ?_
             rotate_left; · intro w'; go_simp; with_reducible rfl
             rotate_left; · simp only [Act.put, sI, sZ, sS, i64_w, i32_w]; rfl
             refine pure_ (i := 23) (N := some 60) (v := ?_) (a' := ?_) (TF 24 12) rfl rfl (any_of HT_.out (by kernel_rfl)) (fun _ _ _ h => h) (Or.inl ⟨by rfl, ?_⟩) ?_ ?_
             rotate_left; · intro w'; go_simp; with_reducible rfl
             rotate_left; · simp only [Act.put, sI, sZ, sS, i64_w, i32_w]; rfl
             refine pure_ (i := 24) (N := some 61) (v := undef) (a' := ?_) (TF 25 11) rfl rfl (any_of HT_.out (by kernel_rfl)) (fun _ _ _ h => h) (Or.inr ⟨by rfl, rfl⟩) ?_ ?_
             rotate_left
             ·simp only [Act.put, sI, sZ, sS, i64_w, i32_w]
              rfl
             refine pure_ (i := 25) (N := some 62) (v := undef) (a' := ?_) (TF 26 10) rfl rfl (any_of HT_.out (by kernel_rfl)) (fun _ _ _ h => h) (Or.inr ⟨by rfl, rfl⟩) ?_ ?_
             rotate_left
             ·simp only [Act.put, sI, sZ, sS, i64_w, i32_w]
              rfl
             refine pure_ (i := 26) (N := some 63) (v := undef) (a' := ?_) (TF 27 9) rfl rfl (any_of HT_.out (by kernel_rfl)) (fun _ _ _ h => h) (Or.inr ⟨by rfl, rfl⟩) ?_ ?_
             rotate_left
             ·simp only [Act.put, sI, sZ, sS, i64_w, i32_w]
              rfl
             refine pure_ (i := 27) (N := some 64) (v := undef) (a' := ?_) (TF 28 8) rfl rfl (any_of HT_.out (by kernel_rfl)) (fun _ _ _ h => h) (Or.inr ⟨by rfl, rfl⟩) ?_ ?_
             rotate_left
             ·simp only [Act.put, sI, sZ, sS, i64_w, i32_w]
              rfl
             refine pure_ (i := 28) (N := some 65) (v := undef) (a' := ?_) (TF 29 7) rfl rfl (any_of HT_.out (by kernel_rfl)) (fun _ _ _ h => h) (Or.inr ⟨by rfl, rfl⟩) ?_ ?_
             rotate_left
             ·simp only [Act.put, sI, sZ, sS, i64_w, i32_w]
              rfl
             refine pure_ (i := 29) (N := some 66) (v := undef) (a' := ?_) (TF 30 6) rfl rfl (any_of HT_.out (by kernel_rfl)) (fun _ _ _ h => h) (Or.inr ⟨by rfl, rfl⟩) ?_ ?_
             rotate_left
             ·simp only [Act.put, sI, sZ, sS, i64_w, i32_w]
              rfl
             refine pure_ (i := 30) (N := some 67) (v := undef) (a' := ?_) (TF 31 5) rfl rfl (any_of HT_.out (by kernel_rfl)) (fun _ _ _ h => h) (Or.inr ⟨by rfl, rfl⟩) ?_ ?_
             rotate_left
             ·simp only [Act.put, sI, sZ, sS, i64_w, i32_w]
              rfl
             refine pure_ (i := 31) (N := some 68) (v := undef) (a' := ?_) (TF 32 4) rfl rfl (any_of HT_.out (by kernel_rfl)) (fun _ _ _ h => h) (Or.inr ⟨by rfl, rfl⟩) ?_ ?_
             rotate_left
             ·simp only [Act.put, sI, sZ, sS, i64_w, i32_w]
              rfl
             refine pure_ (i := 32) (N := some 69) (v := undef) (a' := ?_) (TF 33 3) rfl rfl (any_of HT_.out (by kernel_rfl)) (fun _ _ _ h => h) (Or.inr ⟨by rfl, rfl⟩) ?_ ?_
             rotate_left
             ·simp only [Act.put, sI, sZ, sS, i64_w, i32_w]
              rfl
             refine pure_ (i := 33) (N := some 70) (v := ?_) (a' := ?_) (TF 34 2) rfl rfl (any_of HT_.out (by kernel_rfl)) (fun _ _ _ h => h) (Or.inl ⟨by rfl, ?_⟩) ?_ ?_
             rotate_left; · intro w'; go_simp; with_reducible rfl
             rotate_left; · simp only [Act.put, sI, sZ, sS, i64_w, i32_w]; rfl
             refine pure_ (i := 34) (N := some 71) (v := ?_) (a' := ?_) (TF 35 1) rfl rfl (any_of HT_.out (by kernel_rfl)) (fun _ _ _ h => h) (Or.inl ⟨by rfl, ?_⟩) ?_ ?_
             rotate_left; · intro w'; go_simp; with_reducible rfl
             rotate_left; · simp only [Act.put, sI, sZ, sS, i64_w, i32_w]; rfl
             refine pure_ (i := 35) (N := some 72) (v := ?_) (a' := ?_) (TF 36 0) rfl rfl (any_of HT_.out (by kernel_rfl)) (fun _ _ _ h => h) (Or.inl ⟨by rfl, ?_⟩) ?_ ?_
             rotate_left; · intro w'; go_simp; with_reducible rfl
             rotate_left; · simp only [Act.put, sI, sZ, sS, i64_w, i32_w]; rfl
             refine done_ (done_of HT_.out (by kernel_rfl)) ?_
             try go_wp2
             go_meet
             case rel => exact ⟨_, (true), (by first | rfl | (simp; done) | (simp [*]; done)), H', ⟨by have := HK1.out; first | omega | exact Nat.le_refl _⟩, ⟨by apply Kd.R_to; exact HO_4.out⟩, ⟨by apply Kd.R_to; exact HO_7.out⟩, ⟨by (with_reducible repeat (first | apply Kd.S_alloc | apply Kd.S_drewN | apply Kd.S_drew)); exact HO_302001.out⟩, ⟨by refine bT ?_; exact BK296.out⟩, ⟨by refine bT ?_; exact BK301.out⟩, ⟨bA⟩⟩
            ·rw [if_neg c18] at H
             have c18b0 : (x302000_1 == 18446744073709551615) = false := beq_eq_false_iff_ne.mpr c18
             have c18b1 : (x302000_1 != 18446744073709551615) = true := bne_iff_ne.mpr c18
             have H' := Ax.mk H
             clear H
             try go_wp2
             have n0_ := Ax.mk (Kd.R_drew HO_4.out)
             have n1_ := Ax.mk (Kd.R_drew HO_7.out)
             have n2_ := Ax.mk (Kd.S_drew HO_302001.out)
             have n3_ := Ax.mk (blk_drew BK296.out)
             have n4_ := Ax.mk (blk_drew BK301.out)
             have n5_ := Ax.mk (below_drew1 HB.out)
             clear HO_4
             clear HO_7
             clear HO_302001
             clear BK296
             clear BK301
             clear HB
             have HO_4 := n0_
             have HO_7 := n1_
             have HO_302001 := n2_
             have BK296 := n3_
             have BK301 := n4_
             have HB := n5_
             clear n0_ n1_ n2_ n3_ n4_ n5_
             have p307 : 0 ≤ (x8_1 : Int) := ofD
             have q307 : x8_1 < (t297.length : Int) := ofD
             obtain ⟨ad307, e307, hx307_0, hx307_1, hx307_2, hx307_3, hx307_4⟩ := at_T26 (Kd.R_reads' HO_4.out).2.2 x8_1 p307 q307
             obtain rfl : ad302 = ad307 := (by injection e307)
             replace p307 := eq_true p307
             replace q307 := eq_true q307
             have p308 : 0 ≤ (x8_1 : Int) := ofD
             have q308 : x8_1 < (t297.length : Int) := ofD
             obtain ⟨ad308, e308, hx308_0, hx308_1, hx308_2, hx308_3, hx308_4⟩ := at_T26 (Kd.R_reads' HO_4.out).2.2 x8_1 p308 q308
             obtain rfl : ad302 = ad308 := (by injection e308)
             replace p308 := eq_true p308
             replace q308 := eq_true q308
             obtain ⟨Ao22, co22, eo22⟩ := Kd.S_slice HO_302001.out
             (first | subst eo22 | (injection eo22 with f1_ f2_ f3_; have f4_ := f1_.symm; have f5_ := f3_.symm; clear f1_ f2_ f3_; subst f4_; subst f5_))
             have p309 : 0 ≤ (x8_1 : Int) := ofD
             have q309 : x8_1 < (t297.length : Int) := ofD
             obtain ⟨ad309, e309, hx309_0, hx309_1, hx309_2, hx309_3, hx309_4⟩ := at_T26 (Kd.R_reads' HO_4.out).2.2 x8_1 p309 q309
             obtain rfl : ad302 = ad309 := (by injection e309)
             replace p309 := eq_true p309
             replace q309 := eq_true q309
             refine start_ (n := 36) (S := fun w' => w'.cell? ⟨gb301, 0, none⟩ = some (.int .u64 x302000_1) ∧ w'.cell? ⟨gb301, 1, none⟩ = some (.slice Ao22 x302001_1.length co22) ∧ w'.cell? ⟨gb301, 2, none⟩ = some (.string x302002_1) ∧ w'.cell? (ad302.add ((x8_1).toNat * 5)) = some (.int .i64 ((rd_T26 t297 x8_1).f0)) ∧ w'.cell? ⟨(ad302.add ((x8_1).toNat * 5)).block, (ad302.add ((x8_1).toNat * 5)).off + 1, none⟩ = some (.int .i64 ((rd_T26 t297 x8_1).f1)) ∧ w'.cell? ⟨(ad302.add ((x8_1).toNat * 5)).block, (ad302.add ((x8_1).toNat * 5)).off + 2, none⟩ = some (.int .i64 ((rd_T26 t297 x8_1).f2)) ∧ w'.cell? ⟨(ad302.add ((x8_1).toNat * 5)).block, (ad302.add ((x8_1).toNat * 5)).off + 3, none⟩ = some (.int .u64 ((rd_T26 t297 x8_1).f3)) ∧ w'.cell? ⟨(ad302.add ((x8_1).toNat * 5)).block, (ad302.add ((x8_1).toNat * 5)).off + 4, none⟩ = some (.string ((rd_T26 t297 x8_1).f4)) ∧ w'.cell? (ad302.add ((x8_1).toNat * 5)) = some (.int .i64 ((rd_T26 t297 x8_1).f0)) ∧ w'.cell? ⟨(ad302.add ((x8_1).toNat * 5)).block, (ad302.add ((x8_1).toNat * 5)).off + 1, none⟩ = some (.int .i64 ((rd_T26 t297 x8_1).f1)) ∧ w'.cell? ⟨(ad302.add ((x8_1).toNat * 5)).block, (ad302.add ((x8_1).toNat * 5)).off + 2, none⟩ = some (.int .i64 ((rd_T26 t297 x8_1).f2)) ∧ w'.cell? ⟨(ad302.add ((x8_1).toNat * 5)).block, (ad302.add ((x8_1).toNat * 5)).off + 3, none⟩ = some (.int .u64 ((rd_T26 t297 x8_1).f3)) ∧ w'.cell? ⟨(ad302.add ((x8_1).toNat * 5)).block, (ad302.add ((x8_1).toNat * 5)).off + 4, none⟩ = some (.string ((rd_T26 t297 x8_1).f4)) ∧ w'.cell? (ad302.add ((x8_1).toNat * 5)) = some (.int .i64 ((rd_T26 t297 x8_1).f0)) ∧ w'.cell? ⟨(ad302.add ((x8_1).toNat * 5)).block, (ad302.add ((x8_1).toNat * 5)).off + 1, none⟩ = some (.int .i64 ((rd_T26 t297 x8_1).f1)) ∧ w'.cell? ⟨(ad302.add ((x8_1).toNat * 5)).block, (ad302.add ((x8_1).toNat * 5)).off + 2, none⟩ = some (.int .i64 ((rd_T26 t297 x8_1).f2)) ∧ w'.cell? ⟨(ad302.add ((x8_1).toNat * 5)).block, (ad302.add ((x8_1).toNat * 5)).off + 3, none⟩ = some (.int .u64 ((rd_T26 t297 x8_1).f3)) ∧ w'.cell? ⟨(ad302.add ((x8_1).toNat * 5)).block, (ad302.add ((x8_1).toNat * 5)).off + 4, none⟩ = some (.string ((rd_T26 t297 x8_1).f4))) (ds := []) (TF 0 36) (by kernel_rfl) rfl rfl ⟨(bC BK301.out 0).trans rfl, (bC BK301.out 1).trans rfl, (bC BK301.out 2).trans rfl, hx307_0, hx307_1, hx307_2, hx307_3, hx307_4, hx308_0, hx308_1, hx308_2, hx308_3, hx308_4, hx309_0, hx309_1, hx309_2, hx309_3, hx309_4⟩ (fun hHeld => ?_); refine with_tabW r13_Read.tab9 r13_Read.bits9 (fun HT_ HW_ => ?_)
             generalize wr.drew = w21 at HO_4 HO_7 HO_302001 BK296 BK301 HB hx307_0 hx307_1 hx307_2 hx307_3 hx307_4 hx308_0 hx308_1 hx308_2 hx308_3 hx308_4 hx309_0 hx309_1 hx309_2 hx309_3 hx309_4 hHeld ⊢
             refine pure_ (i := 0) (N := some 37) (v := ?_) (a' := ?_) (TF 1 35) rfl rfl (any_of HT_.out (by kernel_rfl)) (fun _ _ _ h => h) (Or.inl ⟨by rfl, ?_⟩) ?_ ?_
             rotate_left; · intro w'; go_simp; with_reducible rfl
             rotate_left; · simp only [Act.put, sI, sZ, sS, i64_w, i32_w]; rfl
             refine pure_ (i := 1) (N := some 38) (v := ?_) (a' := ?_) (TF 2 34) rfl rfl (any_of HT_.out (by kernel_rfl)) (fun _ _ _ h => h) (Or.inl ⟨by rfl, ?_⟩) ?_ ?_
             rotate_left; · intro w'; go_simp; with_reducible rfl
             rotate_left; · simp only [Act.put, sI, sZ, sS, i64_w, i32_w]; rfl
             refine pure_ (i := 2) (N := some 39) (v := ?_) (a' := ?_) (TF 3 33) rfl rfl (any_of HT_.out (by kernel_rfl)) (fun _ _ _ h => h) (Or.inl ⟨by rfl, ?_⟩) ?_ ?_
             rotate_left; · intro w'; go_simp; with_reducible rfl
             rotate_left; · simp only [Act.put, sI, sZ, sS, i64_w, i32_w]; rfl
             refine pure_ (i := 3) (N := some 40) (v := ?_) (a' := ?_) (TF 4 32) rfl rfl (any_of HT_.out (by kernel_rfl)) (fun _ _ _ h => h) (Or.inl ⟨by rfl, ?_⟩) ?_ ?_
             rotate_left; · intro w'; go_simp; with_reducible rfl
             rotate_left; · simp only [Act.put, sI, sZ, sS, i64_w, i32_w]; rfl
             refine take_ (i := 4) (N := some 41) (v := ?_) (a' := ?_) (TF 5 31) rfl rfl (take_ofW HT_.out HW_.out (by kernel_rfl)) (fun _ _ _ h => h) (Or.inl ⟨by rfl, ?_⟩) hHeld ?_ ?_
             rotate_left
             ·rintro w' ⟨s0, s1, s2, s3, s4, s5, s6, s7, s8, s9, s10, s11, s12, s13, s14, s15, s16, s17⟩
              go_simp
              with_reducible rfl
             rotate_left
             ·simp only [Act.put, sI, sZ, sS, i64_w, i32_w]
              rfl
             refine pure_ (i := 5) (N := some 42) (v := ?_) (a' := ?_) (TF 6 30) rfl rfl (any_of HT_.out (by kernel_rfl)) (fun _ _ _ h => h) (Or.inl ⟨by rfl, ?_⟩) ?_ ?_
             rotate_left; · intro w'; go_simp; with_reducible rfl
             rotate_left; · simp only [Act.put, sI, sZ, sS, i64_w, i32_w]; rfl
             refine pure_ (i := 6) (N := some 43) (v := ?_) (a' := ?_) (TF 7 29) rfl rfl (any_of HT_.out (by kernel_rfl)) (fun _ _ _ h => h) (Or.inl ⟨by rfl, ?_⟩) ?_ ?_
             rotate_left; · intro w'; go_simp; with_reducible rfl
             rotate_left; · simp only [Act.put, sI, sZ, sS, i64_w, i32_w]; rfl
             refine pure_ (i := 7) (N := some 44) (v := ?_) (a' := ?_) (TF 8 28) rfl rfl (any_of HT_.out (by kernel_rfl)) (fun _ _ _ h => h) (Or.inl ⟨by rfl, ?_⟩) ?_ ?_
             rotate_left; · intro w'; go_simp; with_reducible rfl
             rotate_left; · simp only [Act.put, sI, sZ, sS, i64_w, i32_w]; rfl
             refine pure_ (i := 8) (N := some 45) (v := ?_) (a' := ?_) (TF 9 27) rfl rfl (any_of HT_.out (by kernel_rfl)) (fun _ _ _ h => h) (Or.inl ⟨by rfl, ?_⟩) ?_ ?_
             rotate_left; · intro w'; go_simp; with_reducible rfl
             rotate_left; · simp only [Act.put, sI, sZ, sS, i64_w, i32_w]; rfl
             refine pure_ (i := 9) (N := some 46) (v := ?_) (a' := ?_) (TF 10 26) rfl rfl (any_of HT_.out (by kernel_rfl)) (fun _ _ _ h => h) (Or.inl ⟨by rfl, ?_⟩) ?_ ?_
             rotate_left; · intro w'; go_simp; with_reducible rfl
             rotate_left; · simp only [Act.put, sI, sZ, sS, i64_w, i32_w]; rfl
             refine pure_ (i := 10) (N := some 47) (v := ?_) (a' := ?_) (TF 11 25) rfl rfl (any_of HT_.out (by kernel_rfl)) (fun _ _ _ h => h) (Or.inl ⟨by rfl, ?_⟩) ?_ ?_
             rotate_left; · intro w'; go_simp; with_reducible rfl
             rotate_left; · simp only [Act.put, sI, sZ, sS, i64_w, i32_w]; rfl
             refine take_ (i := 11) (N := some 48) (v := ?_) (a' := ?_) (TF 12 24) rfl rfl (take_ofW HT_.out HW_.out (by kernel_rfl)) (fun _ _ _ h => h) (Or.inl ⟨by rfl, ?_⟩) hHeld ?_ ?_
             rotate_left
             ·rintro w' ⟨s0, s1, s2, s3, s4, s5, s6, s7, s8, s9, s10, s11, s12, s13, s14, s15, s16, s17⟩
              go_simp
              with_reducible rfl
             rotate_left
             ·simp only [Act.put, sI, sZ, sS, i64_w, i32_w]
              rfl
             refine pure_ (i := 12) (N := some 49) (v := ?_) (a' := ?_) (TF 13 23) rfl rfl (any_of HT_.out (by kernel_rfl)) (fun _ _ _ h => h) (Or.inl ⟨by rfl, ?_⟩) ?_ ?_
             rotate_left; · intro w'; go_simp; with_reducible rfl
             rotate_left; · simp only [Act.put, sI, sZ, sS, i64_w, i32_w]; rfl
             refine pure_ (i := 13) (N := some 50) (v := ?_) (a' := ?_) (TF 14 22) rfl rfl (any_of HT_.out (by kernel_rfl)) (fun _ _ _ h => h) (Or.inl ⟨by rfl, ?_⟩) ?_ ?_
             rotate_left; · intro w'; go_simp; with_reducible rfl
             rotate_left; · simp only [Act.put, sI, sZ, sS, i64_w, i32_w]; rfl
             refine pure_ (i := 14) (N := some 51) (v := ?_) (a' := ?_) (TF 15 21) rfl rfl (any_of HT_.out (by kernel_rfl)) (fun _ _ _ h => h) (Or.inl ⟨by rfl, ?_⟩) ?_ ?_
             rotate_left; · intro w'; go_simp; with_reducible rfl
             rotate_left; · simp only [Act.put, sI, sZ, sS, i64_w, i32_w]; rfl
             refine pure_ (i := 15) (N := some 52) (v := ?_) (a' := ?_) (TF 16 20) rfl rfl (any_of HT_.out (by kernel_rfl)) (fun _ _ _ h => h) (Or.inl ⟨by rfl, ?_⟩) ?_ ?_
             rotate_left; · intro w'; go_simp; with_reducible rfl
             rotate_left; · simp only [Act.put, sI, sZ, sS, i64_w, i32_w]; rfl
             refine take_ (i := 16) (N := some 53) (v := ?_) (a' := ?_) (TF 17 19) rfl rfl (take_ofW HT_.out HW_.out (by kernel_rfl)) (fun _ _ _ h => h) (Or.inl ⟨by rfl, ?_⟩) hHeld ?_ ?_
             rotate_left
             ·rintro w' ⟨s0, s1, s2, s3, s4, s5, s6, s7, s8, s9, s10, s11, s12, s13, s14, s15, s16, s17⟩
              go_simp
              with_reducible rfl
             rotate_left
             ·simp only [Act.put, sI, sZ, sS, i64_w, i32_w]
              rfl
             refine pure_ (i := 17) (N := some 54) (v := ?_) (a' := ?_) (TF 18 18) rfl rfl (any_of HT_.out (by kernel_rfl)) (fun _ _ _ h => h) (Or.inl ⟨by rfl, ?_⟩) ?_ ?_
             rotate_left; · intro w'; go_simp; with_reducible rfl
             rotate_left; · simp only [Act.put, sI, sZ, sS, i64_w, i32_w]; rfl
             refine pure_ (i := 18) (N := some 55) (v := ?_) (a' := ?_) (TF 19 17) rfl rfl (any_of HT_.out (by kernel_rfl)) (fun _ _ _ h => h) (Or.inl ⟨by rfl, ?_⟩) ?_ ?_
             rotate_left; · intro w'; go_simp; with_reducible rfl
             rotate_left; · simp only [Act.put, sI, sZ, sS, i64_w, i32_w]; rfl
             refine pure_ (i := 19) (N := some 56) (v := ?_) (a' := ?_) (TF 20 16) rfl rfl (any_of HT_.out (by kernel_rfl)) (fun _ _ _ h => h) (Or.inl ⟨by rfl, ?_⟩) ?_ ?_
             rotate_left; · intro w'; go_simp; with_reducible rfl
             rotate_left; · simp only [Act.put, sI, sZ, sS, i64_w, i32_w]; rfl
             refine pure_ (i := 20) (N := some 57) (v := ?_) (a' := ?_) (TF 21 15) rfl rfl (any_of HT_.out (by kernel_rfl)) (fun _ _ _ h => h) (Or.inl ⟨by rfl, ?_⟩) ?_ ?_
             rotate_left; · intro w'; go_simp; with_reducible rfl
             rotate_left; · simp only [Act.put, sI, sZ, sS, i64_w, i32_w]; rfl
             refine take_ (i := 21) (N := some 58) (v := ?_) (a' := ?_) (TF 22 14) rfl rfl (take_ofW HT_.out HW_.out (by kernel_rfl)) (fun _ _ _ h => h) (Or.inl ⟨by rfl, ?_⟩) hHeld ?_ ?_
             rotate_left
             ·rintro w' ⟨s0, s1, s2, s3, s4, s5, s6, s7, s8, s9, s10, s11, s12, s13, s14, s15, s16, s17⟩
              go_simp
              with_reducible rfl
             rotate_left
             ·simp only [Act.put, sI, sZ, sS, i64_w, i32_w]
              rfl
             refine pure_ (i := 22) (N := some 59) (v := ?_) (a' := ?_) (TF 23 13) rfl rfl (any_of HT_.out (by kernel_rfl)) (fun _ _ _ h => h) (Or.inl ⟨by rfl, ?_⟩) ?_ ?_
             rotate_left; · intro w'; go_simp; with_reducible rfl
             rotate_left; · simp only [Act.put, sI, sZ, sS, i64_w, i32_w]; rfl
             refine pure_ (i := 23) (N := some 60) (v := ?_) (a' := ?_) (TF 24 12) rfl rfl (any_of HT_.out (by kernel_rfl)) (fun _ _ _ h => h) (Or.inl ⟨by rfl, ?_⟩) ?_ ?_
             rotate_left; · intro w'; go_simp; with_reducible rfl
             rotate_left; · simp only [Act.put, sI, sZ, sS, i64_w, i32_w]; rfl
             refine pure_ (i := 24) (N := some 61) (v := ?_) (a' := ?_) (TF 25 11) rfl rfl (any_of HT_.out (by kernel_rfl)) (fun _ _ _ h => h) (Or.inl ⟨by rfl, ?_⟩) ?_ ?_
             rotate_left; · intro w'; go_simp; with_reducible rfl
             rotate_left; · simp only [Act.put, sI, sZ, sS, i64_w, i32_w]; rfl
             refine pure_ (i := 25) (N := some 62) (v := ?_) (a' := ?_) (TF 26 10) rfl rfl (any_of HT_.out (by kernel_rfl)) (fun _ _ _ h => h) (Or.inl ⟨by rfl, ?_⟩) ?_ ?_
             rotate_left; · intro w'; go_simp; with_reducible rfl
             rotate_left; · simp only [Act.put, sI, sZ, sS, i64_w, i32_w]; rfl
             refine pure_ (i := 26) (N := some 63) (v := ?_) (a' := ?_) (TF 27 9) rfl rfl (any_of HT_.out (by kernel_rfl)) (fun _ _ _ h => h) (Or.inl ⟨by rfl, ?_⟩) ?_ ?_
             rotate_left; · intro w'; go_simp; with_reducible rfl
             rotate_left; · simp only [Act.put, sI, sZ, sS, i64_w, i32_w]; rfl
             refine pure_ (i := 27) (N := some 64) (v := ?_) (a' := ?_) (TF 28 8) rfl rfl (any_of HT_.out (by kernel_rfl)) (fun _ _ _ h => h) (Or.inl ⟨by rfl, ?_⟩) ?_ ?_
             rotate_left; · intro w'; go_simp; with_reducible rfl
             rotate_left; · simp only [Act.put, sI, sZ, sS, i64_w, i32_w]; rfl
             refine pure_ (i := 29) (N := some 66) (v := ?_) (a' := ?_) (BT 36 805306367) rfl rfl (any_of HT_.out (by kernel_rfl)) (fun _ _ _ h => h) (Or.inl ⟨by rfl, ?_⟩) ?_ ?_
             rotate_left; · intro w'; go_simp; with_reducible rfl
             rotate_left; · simp only [Act.put, sI, sZ, sS, i64_w, i32_w]; rfl
             refine take_ (i := 28) (N := some 65) (v := ?_) (a' := ?_) (TF 30 6) rfl rfl (take_ofW HT_.out HW_.out (by kernel_rfl)) (fun _ _ _ h => h) (Or.inl ⟨by rfl, ?_⟩) hHeld ?_ ?_
             rotate_left
             ·rintro w' ⟨s0, s1, s2, s3, s4, s5, s6, s7, s8, s9, s10, s11, s12, s13, s14, s15, s16, s17⟩
              go_simp
              with_reducible rfl
             rotate_left
             ·simp only [Act.put, sI, sZ, sS, i64_w, i32_w]
              rfl
             refine take_ (i := 30) (N := some 67) (v := ?_) (a' := ?_) (TF 31 5) rfl rfl (take_ofW HT_.out HW_.out (by kernel_rfl)) (fun _ _ _ h => h) (Or.inl ⟨by rfl, ?_⟩) hHeld ?_ ?_
             rotate_left
             ·rintro w' ⟨s0, s1, s2, s3, s4, s5, s6, s7, s8, s9, s10, s11, s12, s13, s14, s15, s16, s17⟩
              go_simp
              with_reducible rfl
             rotate_left
             ·simp only [Act.put, sI, sZ, sS, i64_w, i32_w]
              rfl
             refine pure_ (i := 31) (N := some 68) (v := ?_) (a' := ?_) (TF 32 4) rfl rfl (any_of HT_.out (by kernel_rfl)) (fun _ _ _ h => h) (Or.inl ⟨by rfl, ?_⟩) ?_ ?_
             rotate_left; · intro w'; go_simp; with_reducible rfl
             rotate_left; · simp only [Act.put, sI, sZ, sS, i64_w, i32_w]; rfl
             refine pure_ (i := 32) (N := some 69) (v := ?_) (a' := ?_) (TF 33 3) rfl rfl (any_of HT_.out (by kernel_rfl)) (fun _ _ _ h => h) (Or.inl ⟨by rfl, ?_⟩) ?_ ?_
             rotate_left; · intro w'; go_simp; with_reducible rfl
             rotate_left; · simp only [Act.put, sI, sZ, sS, i64_w, i32_w]; rfl
             refine pure_ (i := 33) (N := some 70) (v := ?_) (a' := ?_) (TF 34 2) rfl rfl (any_of HT_.out (by kernel_rfl)) (fun _ _ _ h => h) (Or.inl ⟨by rfl, ?_⟩) ?_ ?_
             rotate_left; · intro w'; go_simp; with_reducible rfl
             rotate_left; · simp only [Act.put, sI, sZ, sS, i64_w, i32_w]; rfl
             refine pure_ (i := 34) (N := some 71) (v := ?_) (a' := ?_) (TF 35 1) rfl rfl (any_of HT_.out (by kernel_rfl)) (fun _ _ _ h => h) (Or.inl ⟨by rfl, ?_⟩) ?_ ?_
             rotate_left; · intro w'; go_simp; with_reducible rfl
             rotate_left; · simp only [Act.put, sI, sZ, sS, i64_w, i32_w]; rfl
             refine pure_ (i := 35) (N := some 72) (v := ?_) (a' := ?_) (TF 36 0) rfl rfl (any_of HT_.out (by kernel_rfl)) (fun _ _ _ h => h) (Or.inl ⟨by rfl, ?_⟩) ?_ ?_
             rotate_left; · intro w'; go_simp; with_reducible rfl
             rotate_left; · simp only [Act.put, sI, sZ, sS, i64_w, i32_w]; rfl
             refine done_ (done_of HT_.out (by kernel_rfl)) ?_
             try go_wp2
             go_meet
             case rel => exact ⟨_, ((((rd_T26 t297 x8_1).f3) != (IntKind.u64.wrap (x302000_1 + 1)))), (by first | rfl | (simp; done) | (simp [*]; done)), H', ⟨by have := HK1.out; first | omega | exact Nat.le_refl _⟩, ⟨by apply Kd.R_to; exact HO_4.out⟩, ⟨by apply Kd.R_to; exact HO_7.out⟩, ⟨by (with_reducible repeat (first | apply Kd.S_alloc | apply Kd.S_drewN | apply Kd.S_drew)); exact HO_302001.out⟩, ⟨by refine bT ?_; exact BK296.out⟩, ⟨by refine bT ?_; exact BK301.out⟩, ⟨bA⟩⟩
           ·rw [if_neg c17] at H
            have c17b0 : decide (0 < (x302001_1.length : Int)) = false := decide_eq_false c17
            have c17b1 : decide (0 < x302001_1.length) = false := decide_eq_false (by omega)
            clear c17
            have H' := Ax.mk H
            clear H
            try go_wp2
            have n0_ := Ax.mk (Kd.R_drew HO_4.out)
            have n1_ := Ax.mk (Kd.R_drew HO_7.out)
            have n2_ := Ax.mk (Kd.S_drew HO_302001.out)
            have n3_ := Ax.mk (blk_drew BK296.out)
            have n4_ := Ax.mk (blk_drew BK301.out)
            have n5_ := Ax.mk (below_drew1 HB.out)
            clear HO_4
            clear HO_7
            clear HO_302001
            clear BK296
            clear BK301
            clear HB
            have HO_4 := n0_
            have HO_7 := n1_
            have HO_302001 := n2_
            have BK296 := n3_
            have BK301 := n4_
            have HB := n5_
            clear n0_ n1_ n2_ n3_ n4_ n5_
            have p307 : 0 ≤ (x8_1 : Int) := ofD
            have q307 : x8_1 < (t297.length : Int) := ofD
            obtain ⟨ad307, e307, hx307_0, hx307_1, hx307_2, hx307_3, hx307_4⟩ := at_T26 (Kd.R_reads' HO_4.out).2.2 x8_1 p307 q307
            obtain rfl : ad302 = ad307 := (by injection e307)
            replace p307 := eq_true p307
            replace q307 := eq_true q307
            have p308 : 0 ≤ (x8_1 : Int) := ofD
            have q308 : x8_1 < (t297.length : Int) := ofD
            obtain ⟨ad308, e308, hx308_0, hx308_1, hx308_2, hx308_3, hx308_4⟩ := at_T26 (Kd.R_reads' HO_4.out).2.2 x8_1 p308 q308
            obtain rfl : ad302 = ad308 := (by injection e308)
            replace p308 := eq_true p308
            replace q308 := eq_true q308
            obtain ⟨Ao24, co24, eo24⟩ := Kd.S_slice HO_302001.out
            (first | subst eo24 | (injection eo24 with f1_ f2_ f3_; have f4_ := f1_.symm; have f5_ := f3_.symm; clear f1_ f2_ f3_; subst f4_; subst f5_))
            refine start_ (n := 36) (S := fun w' => w'.cell? ⟨gb301, 0, none⟩ = some (.int .u64 x302000_1) ∧ w'.cell? ⟨gb301, 1, none⟩ = some (.slice Ao24 x302001_1.length co24) ∧ w'.cell? ⟨gb301, 2, none⟩ = some (.string x302002_1) ∧ w'.cell? (ad302.add ((x8_1).toNat * 5)) = some (.int .i64 ((rd_T26 t297 x8_1).f0)) ∧ w'.cell? ⟨(ad302.add ((x8_1).toNat * 5)).block, (ad302.add ((x8_1).toNat * 5)).off + 1, none⟩ = some (.int .i64 ((rd_T26 t297 x8_1).f1)) ∧ w'.cell? ⟨(ad302.add ((x8_1).toNat * 5)).block, (ad302.add ((x8_1).toNat * 5)).off + 2, none⟩ = some (.int .i64 ((rd_T26 t297 x8_1).f2)) ∧ w'.cell? ⟨(ad302.add ((x8_1).toNat * 5)).block, (ad302.add ((x8_1).toNat * 5)).off + 3, none⟩ = some (.int .u64 ((rd_T26 t297 x8_1).f3)) ∧ w'.cell? ⟨(ad302.add ((x8_1).toNat * 5)).block, (ad302.add ((x8_1).toNat * 5)).off + 4, none⟩ = some (.string ((rd_T26 t297 x8_1).f4)) ∧ w'.cell? (ad302.add ((x8_1).toNat * 5)) = some (.int .i64 ((rd_T26 t297 x8_1).f0)) ∧ w'.cell? ⟨(ad302.add ((x8_1).toNat * 5)).block, (ad302.add ((x8_1).toNat * 5)).off + 1, none⟩ = some (.int .i64 ((rd_T26 t297 x8_1).f1)) ∧ w'.cell? ⟨(ad302.add ((x8_1).toNat * 5)).block, (ad302.add ((x8_1).toNat * 5)).off + 2, none⟩ = some (.int .i64 ((rd_T26 t297 x8_1).f2)) ∧ w'.cell? ⟨(ad302.add ((x8_1).toNat * 5)).block, (ad302.add ((x8_1).toNat * 5)).off + 3, none⟩ = some (.int .u64 ((rd_T26 t297 x8_1).f3)) ∧ w'.cell? ⟨(ad302.add ((x8_1).toNat * 5)).block, (ad302.add ((x8_1).toNat * 5)).off + 4, none⟩ = some (.string ((rd_T26 t297 x8_1).f4))) (ds := []) (TF 0 36) (by kernel_rfl) rfl rfl ⟨(bC BK301.out 0).trans rfl, (bC BK301.out 1).trans rfl, (bC BK301.out 2).trans rfl, hx307_0, hx307_1, hx307_2, hx307_3, hx307_4, hx308_0, hx308_1, hx308_2, hx308_3, hx308_4⟩ (fun hHeld => ?_); refine with_tabW r13_Read.tab9 r13_Read.bits9 (fun HT_ HW_ => ?_)
            generalize wr.drew = w23 at HO_4 HO_7 HO_302001 BK296 BK301 HB hx307_0 hx307_1 hx307_2 hx307_3 hx307_4 hx308_0 hx308_1 hx308_2 hx308_3 hx308_4 hHeld ⊢
            refine pure_ (i := 0) (N := some 37) (v := ?_) (a' := ?_) (TF 1 35) rfl rfl (any_of HT_.out (by kernel_rfl)) (fun _ _ _ h => h) (Or.inl ⟨by rfl, ?_⟩) ?_ ?_
            rotate_left; · intro w'; go_simp; with_reducible rfl
            rotate_left; · simp only [Act.put, sI, sZ, sS, i64_w, i32_w]; rfl
            refine pure_ (i := 1) (N := some 38) (v := ?_) (a' := ?_) (TF 2 34) rfl rfl (any_of HT_.out (by kernel_rfl)) (fun _ _ _ h => h) (Or.inl ⟨by rfl, ?_⟩) ?_ ?_
            rotate_left; · intro w'; go_simp; with_reducible rfl
            rotate_left; · simp only [Act.put, sI, sZ, sS, i64_w, i32_w]; rfl
            refine pure_ (i := 2) (N := some 39) (v := ?_) (a' := ?_) (TF 3 33) rfl rfl (any_of HT_.out (by kernel_rfl)) (fun _ _ _ h => h) (Or.inl ⟨by rfl, ?_⟩) ?_ ?_
            rotate_left; · intro w'; go_simp; with_reducible rfl
            rotate_left; · simp only [Act.put, sI, sZ, sS, i64_w, i32_w]; rfl
            refine pure_ (i := 3) (N := some 40) (v := ?_) (a' := ?_) (TF 4 32) rfl rfl (any_of HT_.out (by kernel_rfl)) (fun _ _ _ h => h) (Or.inl ⟨by rfl, ?_⟩) ?_ ?_
            rotate_left; · intro w'; go_simp; with_reducible rfl
            rotate_left; · simp only [Act.put, sI, sZ, sS, i64_w, i32_w]; rfl
            refine take_ (i := 4) (N := some 41) (v := ?_) (a' := ?_) (TF 5 31) rfl rfl (take_ofW HT_.out HW_.out (by kernel_rfl)) (fun _ _ _ h => h) (Or.inl ⟨by rfl, ?_⟩) hHeld ?_ ?_
            rotate_left
            ·rintro w' ⟨s0, s1, s2, s3, s4, s5, s6, s7, s8, s9, s10, s11, s12⟩
             go_simp
             with_reducible rfl
            rotate_left
            ·simp only [Act.put, sI, sZ, sS, i64_w, i32_w]
             rfl
            refine pure_ (i := 5) (N := some 42) (v := ?_) (a' := ?_) (TF 6 30) rfl rfl (any_of HT_.out (by kernel_rfl)) (fun _ _ _ h => h) (Or.inl ⟨by rfl, ?_⟩) ?_ ?_
            rotate_left; · intro w'; go_simp; with_reducible rfl
            rotate_left; · simp only [Act.put, sI, sZ, sS, i64_w, i32_w]; rfl
            refine pure_ (i := 6) (N := some 43) (v := ?_) (a' := ?_) (TF 7 29) rfl rfl (any_of HT_.out (by kernel_rfl)) (fun _ _ _ h => h) (Or.inl ⟨by rfl, ?_⟩) ?_ ?_
            rotate_left; · intro w'; go_simp; with_reducible rfl
            rotate_left; · simp only [Act.put, sI, sZ, sS, i64_w, i32_w]; rfl
            refine pure_ (i := 7) (N := some 44) (v := ?_) (a' := ?_) (TF 8 28) rfl rfl (any_of HT_.out (by kernel_rfl)) (fun _ _ _ h => h) (Or.inl ⟨by rfl, ?_⟩) ?_ ?_
            rotate_left; · intro w'; go_simp; with_reducible rfl
            rotate_left; · simp only [Act.put, sI, sZ, sS, i64_w, i32_w]; rfl
            refine pure_ (i := 8) (N := some 45) (v := ?_) (a' := ?_) (TF 9 27) rfl rfl (any_of HT_.out (by kernel_rfl)) (fun _ _ _ h => h) (Or.inl ⟨by rfl, ?_⟩) ?_ ?_
            rotate_left; · intro w'; go_simp; with_reducible rfl
            rotate_left; · simp only [Act.put, sI, sZ, sS, i64_w, i32_w]; rfl
            refine pure_ (i := 9) (N := some 46) (v := ?_) (a' := ?_) (TF 10 26) rfl rfl (any_of HT_.out (by kernel_rfl)) (fun _ _ _ h => h) (Or.inl ⟨by rfl, ?_⟩) ?_ ?_
            rotate_left; · intro w'; go_simp; with_reducible rfl
            rotate_left; · simp only [Act.put, sI, sZ, sS, i64_w, i32_w]; rfl
            refine pure_ (i := 10) (N := some 47) (v := ?_) (a' := ?_) (TF 11 25) rfl rfl (any_of HT_.out (by kernel_rfl)) (fun _ _ _ h => h) (Or.inl ⟨by rfl, ?_⟩) ?_ ?_
            rotate_left; · intro w'; go_simp; with_reducible rfl
            rotate_left; · simp only [Act.put, sI, sZ, sS, i64_w, i32_w]; rfl
            refine take_ (i := 11) (N := some 48) (v := ?_) (a' := ?_) (TF 12 24) rfl rfl (take_ofW HT_.out HW_.out (by kernel_rfl)) (fun _ _ _ h => h) (Or.inl ⟨by rfl, ?_⟩) hHeld ?_ ?_
            rotate_left
            ·rintro w' ⟨s0, s1, s2, s3, s4, s5, s6, s7, s8, s9, s10, s11, s12⟩
             go_simp
             with_reducible rfl
            rotate_left
            ·simp only [Act.put, sI, sZ, sS, i64_w, i32_w]
             rfl
            refine pure_ (i := 12) (N := some 49) (v := ?_) (a' := ?_) (TF 13 23) rfl rfl (any_of HT_.out (by kernel_rfl)) (fun _ _ _ h => h) (Or.inl ⟨by rfl, ?_⟩) ?_ ?_
            rotate_left; · intro w'; go_simp; with_reducible rfl
            rotate_left; · simp only [Act.put, sI, sZ, sS, i64_w, i32_w]; rfl
            refine pure_ (i := 13) (N := some 50) (v := ?_) (a' := ?_) (TF 14 22) rfl rfl (any_of HT_.out (by kernel_rfl)) (fun _ _ _ h => h) (Or.inl ⟨by rfl, ?_⟩) ?_ ?_
            rotate_left; · intro w'; go_simp; with_reducible rfl
            rotate_left; · simp only [Act.put, sI, sZ, sS, i64_w, i32_w]; rfl
            refine pure_ (i := 14) (N := some 51) (v := ?_) (a' := ?_) (TF 15 21) rfl rfl (any_of HT_.out (by kernel_rfl)) (fun _ _ _ h => h) (Or.inl ⟨by rfl, ?_⟩) ?_ ?_
            rotate_left; · intro w'; go_simp; with_reducible rfl
            rotate_left; · simp only [Act.put, sI, sZ, sS, i64_w, i32_w]; rfl
            refine pure_ (i := 15) (N := some 52) (v := ?_) (a' := ?_) (TF 16 20) rfl rfl (any_of HT_.out (by kernel_rfl)) (fun _ _ _ h => h) (Or.inl ⟨by rfl, ?_⟩) ?_ ?_
            rotate_left; · intro w'; go_simp; with_reducible rfl
            rotate_left; · simp only [Act.put, sI, sZ, sS, i64_w, i32_w]; rfl
            refine take_ (i := 16) (N := some 53) (v := ?_) (a' := ?_) (TF 17 19) rfl rfl (take_ofW HT_.out HW_.out (by kernel_rfl)) (fun _ _ _ h => h) (Or.inl ⟨by rfl, ?_⟩) hHeld ?_ ?_
            rotate_left
            ·rintro w' ⟨s0, s1, s2, s3, s4, s5, s6, s7, s8, s9, s10, s11, s12⟩
             go_simp
             with_reducible rfl
            rotate_left
            ·simp only [Act.put, sI, sZ, sS, i64_w, i32_w]
             rfl
            refine pure_ (i := 17) (N := some 54) (v := ?_) (a' := ?_) (TF 18 18) rfl rfl (any_of HT_.out (by kernel_rfl)) (fun _ _ _ h => h) (Or.inl ⟨by rfl, ?_⟩) ?_ ?_
            rotate_left; · intro w'; go_simp; with_reducible rfl
            rotate_left; · simp only [Act.put, sI, sZ, sS, i64_w, i32_w]; rfl
            refine pure_ (i := 18) (N := some 55) (v := ?_) (a' := ?_) (TF 19 17) rfl rfl (any_of HT_.out (by kernel_rfl)) (fun _ _ _ h => h) (Or.inl ⟨by rfl, ?_⟩) ?_ ?_
            rotate_left; · intro w'; go_simp; with_reducible rfl
            rotate_left; · simp only [Act.put, sI, sZ, sS, i64_w, i32_w]; rfl
            refine pure_ (i := 19) (N := some 56) (v := ?_) (a' := ?_) (TF 20 16) rfl rfl (any_of HT_.out (by kernel_rfl)) (fun _ _ _ h => h) (Or.inl ⟨by rfl, ?_⟩) ?_ ?_
            rotate_left; · intro w'; go_simp; with_reducible rfl
            rotate_left; · simp only [Act.put, sI, sZ, sS, i64_w, i32_w]; rfl
            refine pure_ (i := 20) (N := some 57) (v := undef) (a' := ?_) (TF 21 15) rfl rfl (any_of HT_.out (by kernel_rfl)) (fun _ _ _ h => h) (Or.inr ⟨by rfl, rfl⟩) ?_ ?_
            rotate_left
            ·simp only [Act.put, sI, sZ, sS, i64_w, i32_w]
             rfl
            refine pure_ (i := 21) (N := some 58) (v := undef) (a' := ?_) (TF 22 14) rfl rfl (any_of HT_.out (by kernel_rfl)) (fun _ _ _ h => h) (Or.inr ⟨by rfl, rfl⟩) ?_ ?_
            rotate_left
            ·simp only [Act.put, sI, sZ, sS, i64_w, i32_w]
             rfl
            refine pure_ (i := 22) (N := some 59) (v := undef) (a' := ?_) (TF 23 13) rfl rfl (any_of HT_.out (by kernel_rfl)) (fun _ _ _ h => h) (Or.inr ⟨by rfl, rfl⟩) ?_ ?_
            rotate_left
            ·simp only [Act.put, sI, sZ, sS, i64_w, i32_w]
             rfl
            refine pure_ (i := 23) (N := some 60) (v := undef) (a' := ?_) (TF 24 12) rfl rfl (any_of HT_.out (by kernel_rfl)) (fun _ _ _ h => h) (Or.inr ⟨by rfl, rfl⟩) ?_ ?_
            rotate_left
            ·simp only [Act.put, sI, sZ, sS, i64_w, i32_w]
             rfl
            refine pure_ (i := 24) (N := some 61) (v := undef) (a' := ?_) (TF 25 11) rfl rfl (any_of HT_.out (by kernel_rfl)) (fun _ _ _ h => h) (Or.inr ⟨by rfl, rfl⟩) ?_ ?_
            rotate_left
            ·simp only [Act.put, sI, sZ, sS, i64_w, i32_w]
             rfl
            refine pure_ (i := 25) (N := some 62) (v := undef) (a' := ?_) (TF 26 10) rfl rfl (any_of HT_.out (by kernel_rfl)) (fun _ _ _ h => h) (Or.inr ⟨by rfl, rfl⟩) ?_ ?_
            rotate_left
            ·simp only [Act.put, sI, sZ, sS, i64_w, i32_w]
             rfl
            refine pure_ (i := 26) (N := some 63) (v := undef) (a' := ?_) (TF 27 9) rfl rfl (any_of HT_.out (by kernel_rfl)) (fun _ _ _ h => h) (Or.inr ⟨by rfl, rfl⟩) ?_ ?_
            rotate_left
            ·simp only [Act.put, sI, sZ, sS, i64_w, i32_w]
             rfl
            refine pure_ (i := 27) (N := some 64) (v := undef) (a' := ?_) (TF 28 8) rfl rfl (any_of HT_.out (by kernel_rfl)) (fun _ _ _ h => h) (Or.inr ⟨by rfl, rfl⟩) ?_ ?_
            rotate_left
            ·simp only [Act.put, sI, sZ, sS, i64_w, i32_w]
             rfl
            refine pure_ (i := 28) (N := some 65) (v := undef) (a' := ?_) (TF 29 7) rfl rfl (any_of HT_.out (by kernel_rfl)) (fun _ _ _ h => h) (Or.inr ⟨by rfl, rfl⟩) ?_ ?_
            rotate_left
            ·simp only [Act.put, sI, sZ, sS, i64_w, i32_w]
             rfl
            refine pure_ (i := 29) (N := some 66) (v := undef) (a' := ?_) (TF 30 6) rfl rfl (any_of HT_.out (by kernel_rfl)) (fun _ _ _ h => h) (Or.inr ⟨by rfl, rfl⟩) ?_ ?_
            rotate_left
            ·simp only [Act.put, sI, sZ, sS, i64_w, i32_w]
             rfl
            refine pure_ (i := 30) (N := some 67) (v := undef) (a' := ?_) (TF 31 5) rfl rfl (any_of HT_.out (by kernel_rfl)) (fun _ _ _ h => h) (Or.inr ⟨by rfl, rfl⟩) ?_ ?_
            rotate_left
            ·simp only [Act.put, sI, sZ, sS, i64_w, i32_w]
             rfl
            refine pure_ (i := 31) (N := some 68) (v := undef) (a' := ?_) (TF 32 4) rfl rfl (any_of HT_.out (by kernel_rfl)) (fun _ _ _ h => h) (Or.inr ⟨by rfl, rfl⟩) ?_ ?_
            rotate_left
            ·simp only [Act.put, sI, sZ, sS, i64_w, i32_w]
             rfl
            refine pure_ (i := 32) (N := some 69) (v := undef) (a' := ?_) (TF 33 3) rfl rfl (any_of HT_.out (by kernel_rfl)) (fun _ _ _ h => h) (Or.inr ⟨by rfl, rfl⟩) ?_ ?_
            rotate_left
            ·simp only [Act.put, sI, sZ, sS, i64_w, i32_w]
             rfl
            refine pure_ (i := 33) (N := some 70) (v := undef) (a' := ?_) (TF 34 2) rfl rfl (any_of HT_.out (by kernel_rfl)) (fun _ _ _ h => h) (Or.inr ⟨by rfl, rfl⟩) ?_ ?_
            rotate_left
            ·simp only [Act.put, sI, sZ, sS, i64_w, i32_w]
             rfl
            refine pure_ (i := 34) (N := some 71) (v := ?_) (a' := ?_) (TF 35 1) rfl rfl (any_of HT_.out (by kernel_rfl)) (fun _ _ _ h => h) (Or.inl ⟨by rfl, ?_⟩) ?_ ?_
            rotate_left; · intro w'; go_simp; with_reducible rfl
            rotate_left; · simp only [Act.put, sI, sZ, sS, i64_w, i32_w]; rfl
            refine pure_ (i := 35) (N := some 72) (v := ?_) (a' := ?_) (TF 36 0) rfl rfl (any_of HT_.out (by kernel_rfl)) (fun _ _ _ h => h) (Or.inl ⟨by rfl, ?_⟩) ?_ ?_
            rotate_left; · intro w'; go_simp; with_reducible rfl
            rotate_left; · simp only [Act.put, sI, sZ, sS, i64_w, i32_w]; rfl
            refine done_ (done_of HT_.out (by kernel_rfl)) ?_
            try go_wp2
            go_meet
            case rel => exact ⟨_, (false), (by first | rfl | (simp; done) | (simp [*]; done)), H', ⟨by have := HK1.out; first | omega | exact Nat.le_refl _⟩, ⟨by apply Kd.R_to; exact HO_4.out⟩, ⟨by apply Kd.R_to; exact HO_7.out⟩, ⟨by (with_reducible repeat (first | apply Kd.S_alloc | apply Kd.S_drewN | apply Kd.S_drew)); exact HO_302001.out⟩, ⟨by refine bT ?_; exact BK296.out⟩, ⟨by refine bT ?_; exact BK301.out⟩, ⟨bA⟩⟩
          ·rw [if_neg c16] at H
           have c16b0 : (((rd_T26 t297 x8_1).f2) == 0) = false := beq_eq_false_iff_ne.mpr c16
           have c16b1 : (((rd_T26 t297 x8_1).f2) != 0) = true := bne_iff_ne.mpr c16
           have H' := Ax.mk H
           clear H
           try go_wp2
           have n0_ := Ax.mk (Kd.R_drew HO_4.out)
           have n1_ := Ax.mk (Kd.R_drew HO_7.out)
           have n2_ := Ax.mk (Kd.S_drew HO_302001.out)
           have n3_ := Ax.mk (blk_drew BK296.out)
           have n4_ := Ax.mk (blk_drew BK301.out)
           have n5_ := Ax.mk (below_drew1 HB.out)
           clear HO_4
           clear HO_7
           clear HO_302001
           clear BK296
           clear BK301
           clear HB
           have HO_4 := n0_
           have HO_7 := n1_
           have HO_302001 := n2_
           have BK296 := n3_
           have BK301 := n4_
           have HB := n5_
           clear n0_ n1_ n2_ n3_ n4_ n5_
           have p307 : 0 ≤ (x8_1 : Int) := ofD
           have q307 : x8_1 < (t297.length : Int) := ofD
           obtain ⟨ad307, e307, hx307_0, hx307_1, hx307_2, hx307_3, hx307_4⟩ := at_T26 (Kd.R_reads' HO_4.out).2.2 x8_1 p307 q307
           obtain rfl : ad302 = ad307 := (by injection e307)
           replace p307 := eq_true p307
           replace q307 := eq_true q307
           have p308 : 0 ≤ (x8_1 : Int) := ofD
           have q308 : x8_1 < (t297.length : Int) := ofD
           obtain ⟨ad308, e308, hx308_0, hx308_1, hx308_2, hx308_3, hx308_4⟩ := at_T26 (Kd.R_reads' HO_4.out).2.2 x8_1 p308 q308
           obtain rfl : ad302 = ad308 := (by injection e308)
           replace p308 := eq_true p308
           replace q308 := eq_true q308
           refine start_ (n := 36) (S := fun w' => w'.cell? (ad302.add ((x8_1).toNat * 5)) = some (.int .i64 ((rd_T26 t297 x8_1).f0)) ∧ w'.cell? ⟨(ad302.add ((x8_1).toNat * 5)).block, (ad302.add ((x8_1).toNat * 5)).off + 1, none⟩ = some (.int .i64 ((rd_T26 t297 x8_1).f1)) ∧ w'.cell? ⟨(ad302.add ((x8_1).toNat * 5)).block, (ad302.add ((x8_1).toNat * 5)).off + 2, none⟩ = some (.int .i64 ((rd_T26 t297 x8_1).f2)) ∧ w'.cell? ⟨(ad302.add ((x8_1).toNat * 5)).block, (ad302.add ((x8_1).toNat * 5)).off + 3, none⟩ = some (.int .u64 ((rd_T26 t297 x8_1).f3)) ∧ w'.cell? ⟨(ad302.add ((x8_1).toNat * 5)).block, (ad302.add ((x8_1).toNat * 5)).off + 4, none⟩ = some (.string ((rd_T26 t297 x8_1).f4)) ∧ w'.cell? (ad302.add ((x8_1).toNat * 5)) = some (.int .i64 ((rd_T26 t297 x8_1).f0)) ∧ w'.cell? ⟨(ad302.add ((x8_1).toNat * 5)).block, (ad302.add ((x8_1).toNat * 5)).off + 1, none⟩ = some (.int .i64 ((rd_T26 t297 x8_1).f1)) ∧ w'.cell? ⟨(ad302.add ((x8_1).toNat * 5)).block, (ad302.add ((x8_1).toNat * 5)).off + 2, none⟩ = some (.int .i64 ((rd_T26 t297 x8_1).f2)) ∧ w'.cell? ⟨(ad302.add ((x8_1).toNat * 5)).block, (ad302.add ((x8_1).toNat * 5)).off + 3, none⟩ = some (.int .u64 ((rd_T26 t297 x8_1).f3)) ∧ w'.cell? ⟨(ad302.add ((x8_1).toNat * 5)).block, (ad302.add ((x8_1).toNat * 5)).off + 4, none⟩ = some (.string ((rd_T26 t297 x8_1).f4))) (ds := []) (TF 0 36) (by kernel_rfl) rfl rfl ⟨hx307_0, hx307_1, hx307_2, hx307_3, hx307_4, hx308_0, hx308_1, hx308_2, hx308_3, hx308_4⟩ (fun hHeld => ?_); refine with_tabW r13_Read.tab9 r13_Read.bits9 (fun HT_ HW_ => ?_)
           generalize wr.drew = w25 at HO_4 HO_7 HO_302001 BK296 BK301 HB hx307_0 hx307_1 hx307_2 hx307_3 hx307_4 hx308_0 hx308_1 hx308_2 hx308_3 hx308_4 hHeld ⊢
           refine pure_ (i := 0) (N := some 37) (v := ?_) (a' := ?_) (TF 1 35) rfl rfl (any_of HT_.out (by kernel_rfl)) (fun _ _ _ h => h) (Or.inl ⟨by rfl, ?_⟩) ?_ ?_
           rotate_left; · intro w'; go_simp; with_reducible rfl
           rotate_left; · simp only [Act.put, sI, sZ, sS, i64_w, i32_w]; rfl
           refine pure_ (i := 1) (N := some 38) (v := ?_) (a' := ?_) (TF 2 34) rfl rfl (any_of HT_.out (by kernel_rfl)) (fun _ _ _ h => h) (Or.inl ⟨by rfl, ?_⟩) ?_ ?_
           rotate_left; · intro w'; go_simp; with_reducible rfl
           rotate_left; · simp only [Act.put, sI, sZ, sS, i64_w, i32_w]; rfl
           refine pure_ (i := 2) (N := some 39) (v := ?_) (a' := ?_) (TF 3 33) rfl rfl (any_of HT_.out (by kernel_rfl)) (fun _ _ _ h => h) (Or.inl ⟨by rfl, ?_⟩) ?_ ?_
           rotate_left; · intro w'; go_simp; with_reducible rfl
           rotate_left; · simp only [Act.put, sI, sZ, sS, i64_w, i32_w]; rfl
           refine pure_ (i := 3) (N := some 40) (v := ?_) (a' := ?_) (TF 4 32) rfl rfl (any_of HT_.out (by kernel_rfl)) (fun _ _ _ h => h) (Or.inl ⟨by rfl, ?_⟩) ?_ ?_
           rotate_left; · intro w'; go_simp; with_reducible rfl
           rotate_left; · simp only [Act.put, sI, sZ, sS, i64_w, i32_w]; rfl
           refine take_ (i := 4) (N := some 41) (v := ?_) (a' := ?_) (TF 5 31) rfl rfl (take_ofW HT_.out HW_.out (by kernel_rfl)) (fun _ _ _ h => h) (Or.inl ⟨by rfl, ?_⟩) hHeld ?_ ?_
           rotate_left
           ·rintro w' ⟨s0, s1, s2, s3, s4, s5, s6, s7, s8, s9⟩
            go_simp
            with_reducible rfl
           rotate_left
           ·simp only [Act.put, sI, sZ, sS, i64_w, i32_w]
            rfl
           refine pure_ (i := 5) (N := some 42) (v := ?_) (a' := ?_) (TF 6 30) rfl rfl (any_of HT_.out (by kernel_rfl)) (fun _ _ _ h => h) (Or.inl ⟨by rfl, ?_⟩) ?_ ?_
           rotate_left; · intro w'; go_simp; with_reducible rfl
           rotate_left; · simp only [Act.put, sI, sZ, sS, i64_w, i32_w]; rfl
           refine pure_ (i := 6) (N := some 43) (v := ?_) (a' := ?_) (TF 7 29) rfl rfl (any_of HT_.out (by kernel_rfl)) (fun _ _ _ h => h) (Or.inl ⟨by rfl, ?_⟩) ?_ ?_
           rotate_left; · intro w'; go_simp; with_reducible rfl
           rotate_left; · simp only [Act.put, sI, sZ, sS, i64_w, i32_w]; rfl
           refine pure_ (i := 7) (N := some 44) (v := ?_) (a' := ?_) (TF 8 28) rfl rfl (any_of HT_.out (by kernel_rfl)) (fun _ _ _ h => h) (Or.inl ⟨by rfl, ?_⟩) ?_ ?_
           rotate_left; · intro w'; go_simp; with_reducible rfl
           rotate_left; · simp only [Act.put, sI, sZ, sS, i64_w, i32_w]; rfl
           refine pure_ (i := 8) (N := some 45) (v := ?_) (a' := ?_) (TF 9 27) rfl rfl (any_of HT_.out (by kernel_rfl)) (fun _ _ _ h => h) (Or.inl ⟨by rfl, ?_⟩) ?_ ?_
           rotate_left; · intro w'; go_simp; with_reducible rfl
           rotate_left; · simp only [Act.put, sI, sZ, sS, i64_w, i32_w]; rfl
           refine pure_ (i := 9) (N := some 46) (v := ?_) (a' := ?_) (TF 10 26) rfl rfl (any_of HT_.out (by kernel_rfl)) (fun _ _ _ h => h) (Or.inl ⟨by rfl, ?_⟩) ?_ ?_
           rotate_left; · intro w'; go_simp; with_reducible rfl
           rotate_left; · simp only [Act.put, sI, sZ, sS, i64_w, i32_w]; rfl
           refine pure_ (i := 10) (N := some 47) (v := ?_) (a' := ?_) (TF 11 25) rfl rfl (any_of HT_.out (by kernel_rfl)) (fun _ _ _ h => h) (Or.inl ⟨by rfl, ?_⟩) ?_ ?_
           rotate_left; · intro w'; go_simp; with_reducible rfl
           rotate_left; · simp only [Act.put, sI, sZ, sS, i64_w, i32_w]; rfl
           refine take_ (i := 11) (N := some 48) (v := ?_) (a' := ?_) (TF 12 24) rfl rfl (take_ofW HT_.out HW_.out (by kernel_rfl)) (fun _ _ _ h => h) (Or.inl ⟨by rfl, ?_⟩) hHeld ?_ ?_
           rotate_left
           ·rintro w' ⟨s0, s1, s2, s3, s4, s5, s6, s7, s8, s9⟩
            go_simp
            with_reducible rfl
           rotate_left
           ·simp only [Act.put, sI, sZ, sS, i64_w, i32_w]
            rfl
           refine pure_ (i := 12) (N := some 49) (v := ?_) (a' := ?_) (TF 13 23) rfl rfl (any_of HT_.out (by kernel_rfl)) (fun _ _ _ h => h) (Or.inl ⟨by rfl, ?_⟩) ?_ ?_
           rotate_left; · intro w'; go_simp; with_reducible rfl
           rotate_left; · simp only [Act.put, sI, sZ, sS, i64_w, i32_w]; rfl
           refine pure_ (i := 13) (N := some 50) (v := ?_) (a' := ?_) (TF 14 22) rfl rfl (any_of HT_.out (by kernel_rfl)) (fun _ _ _ h => h) (Or.inl ⟨by rfl, ?_⟩) ?_ ?_
           rotate_left; · intro w'; go_simp; with_reducible rfl
           rotate_left; · simp only [Act.put, sI, sZ, sS, i64_w, i32_w]; rfl
           refine pure_ (i := 14) (N := some 51) (v := ?_) (a' := ?_) (TF 15 21) rfl rfl (any_of HT_.out (by kernel_rfl)) (fun _ _ _ h => h) (Or.inl ⟨by rfl, ?_⟩) ?_ ?_
           rotate_left; · intro w'; go_simp; with_reducible rfl
           rotate_left; · simp only [Act.put, sI, sZ, sS, i64_w, i32_w]; rfl
           refine pure_ (i := 15) (N := some 52) (v := undef) (a' := ?_) (TF 16 20) rfl rfl (any_of HT_.out (by kernel_rfl)) (fun _ _ _ h => h) (Or.inr ⟨by rfl, rfl⟩) ?_ ?_
           rotate_left
           ·simp only [Act.put, sI, sZ, sS, i64_w, i32_w]
            rfl
           refine pure_ (i := 16) (N := some 53) (v := undef) (a' := ?_) (TF 17 19) rfl rfl (any_of HT_.out (by kernel_rfl)) (fun _ _ _ h => h) (Or.inr ⟨by rfl, rfl⟩) ?_ ?_
           rotate_left
           ·simp only [Act.put, sI, sZ, sS, i64_w, i32_w]
            rfl
           refine pure_ (i := 17) (N := some 54) (v := undef) (a' := ?_) (TF 18 18) rfl rfl (any_of HT_.out (by kernel_rfl)) (fun _ _ _ h => h) (Or.inr ⟨by rfl, rfl⟩) ?_ ?_
           rotate_left
           ·simp only [Act.put, sI, sZ, sS, i64_w, i32_w]
            rfl
           refine pure_ (i := 18) (N := some 55) (v := undef) (a' := ?_) (TF 19 17) rfl rfl (any_of HT_.out (by kernel_rfl)) (fun _ _ _ h => h) (Or.inr ⟨by rfl, rfl⟩) ?_ ?_
           rotate_left
           ·simp only [Act.put, sI, sZ, sS, i64_w, i32_w]
            rfl
           refine pure_ (i := 19) (N := some 56) (v := undef) (a' := ?_) (TF 20 16) rfl rfl (any_of HT_.out (by kernel_rfl)) (fun _ _ _ h => h) (Or.inr ⟨by rfl, rfl⟩) ?_ ?_
           rotate_left
           ·simp only [Act.put, sI, sZ, sS, i64_w, i32_w]
            rfl
           refine pure_ (i := 20) (N := some 57) (v := undef) (a' := ?_) (TF 21 15) rfl rfl (any_of HT_.out (by kernel_rfl)) (fun _ _ _ h => h) (Or.inr ⟨by rfl, rfl⟩) ?_ ?_
           rotate_left
           ·simp only [Act.put, sI, sZ, sS, i64_w, i32_w]
            rfl
           refine pure_ (i := 21) (N := some 58) (v := undef) (a' := ?_) (TF 22 14) rfl rfl (any_of HT_.out (by kernel_rfl)) (fun _ _ _ h => h) (Or.inr ⟨by rfl, rfl⟩) ?_ ?_
           rotate_left
           ·simp only [Act.put, sI, sZ, sS, i64_w, i32_w]
            rfl
           refine pure_ (i := 22) (N := some 59) (v := undef) (a' := ?_) (TF 23 13) rfl rfl (any_of HT_.out (by kernel_rfl)) (fun _ _ _ h => h) (Or.inr ⟨by rfl, rfl⟩) ?_ ?_
           rotate_left
           ·simp only [Act.put, sI, sZ, sS, i64_w, i32_w]
            rfl
           refine pure_ (i := 23) (N := some 60) (v := undef) (a' := ?_) (TF 24 12) rfl rfl (any_of HT_.out (by kernel_rfl)) (fun _ _ _ h => h) (Or.inr ⟨by rfl, rfl⟩) ?_ ?_
           rotate_left
           ·simp only [Act.put, sI, sZ, sS, i64_w, i32_w]
            rfl
           refine pure_ (i := 24) (N := some 61) (v := undef) (a' := ?_) (TF 25 11) rfl rfl (any_of HT_.out (by kernel_rfl)) (fun _ _ _ h => h) (Or.inr ⟨by rfl, rfl⟩) ?_ ?_
           rotate_left
           ·simp only [Act.put, sI, sZ, sS, i64_w, i32_w]
            rfl
           refine pure_ (i := 25) (N := some 62) (v := undef) (a' := ?_) (TF 26 10) rfl rfl (any_of HT_.out (by kernel_rfl)) (fun _ _ _ h => h) (Or.inr ⟨by rfl, rfl⟩) ?_ ?_
           rotate_left
           ·simp only [Act.put, sI, sZ, sS, i64_w, i32_w]
            rfl
           refine pure_ (i := 26) (N := some 63) (v := undef) (a' := ?_) (TF 27 9) rfl rfl (any_of HT_.out (by kernel_rfl)) (fun _ _ _ h => h) (Or.inr ⟨by rfl, rfl⟩) ?_ ?_
           rotate_left
           ·simp only [Act.put, sI, sZ, sS, i64_w, i32_w]
            rfl
           refine pure_ (i := 27) (N := some 64) (v := undef) (a' := ?_) (TF 28 8) rfl rfl (any_of HT_.out (by kernel_rfl)) (fun _ _ _ h => h) (Or.inr ⟨by rfl, rfl⟩) ?_ ?_
           rotate_left
           ·simp only [Act.put, sI, sZ, sS, i64_w, i32_w]
            rfl
           refine pure_ (i := 28) (N := some 65) (v := undef) (a' := ?_) (TF 29 7) rfl rfl (any_of HT_.out (by kernel_rfl)) (fun _ _ _ h => h) (Or.inr ⟨by rfl, rfl⟩) ?_ ?_
           rotate_left
           ·simp only [Act.put, sI, sZ, sS, i64_w, i32_w]
            rfl
           refine pure_ (i := 29) (N := some 66) (v := undef) (a' := ?_) (TF 30 6) rfl rfl (any_of HT_.out (by kernel_rfl)) (fun _ _ _ h => h) (Or.inr ⟨by rfl, rfl⟩) ?_ ?_
           rotate_left
           ·simp only [Act.put, sI, sZ, sS, i64_w, i32_w]
            rfl
           refine pure_ (i := 30) (N := some 67) (v := undef) (a' := ?_) (TF 31 5) rfl rfl (any_of HT_.out (by kernel_rfl)) (fun _ _ _ h => h) (Or.inr ⟨by rfl, rfl⟩) ?_ ?_
           rotate_left
           ·simp only [Act.put, sI, sZ, sS, i64_w, i32_w]
            rfl
           refine pure_ (i := 31) (N := some 68) (v := undef) (a' := ?_) (TF 32 4) rfl rfl (any_of HT_.out (by kernel_rfl)) (fun _ _ _ h => h) (Or.inr ⟨by rfl, rfl⟩) ?_ ?_
           rotate_left
           ·simp only [Act.put, sI, sZ, sS, i64_w, i32_w]
            rfl
           refine pure_ (i := 32) (N := some 69) (v := undef) (a' := ?_) (TF 33 3) rfl rfl (any_of HT_.out (by kernel_rfl)) (fun _ _ _ h => h) (Or.inr ⟨by rfl, rfl⟩) ?_ ?_
           rotate_left
           ·simp only [Act.put, sI, sZ, sS, i64_w, i32_w]
            rfl
           refine pure_ (i := 33) (N := some 70) (v := undef) (a' := ?_) (TF 34 2) rfl rfl (any_of HT_.out (by kernel_rfl)) (fun _ _ _ h => h) (Or.inr ⟨by rfl, rfl⟩) ?_ ?_
           rotate_left
           ·simp only [Act.put, sI, sZ, sS, i64_w, i32_w]
            rfl
           refine pure_ (i := 34) (N := some 71) (v := undef) (a' := ?_) (TF 35 1) rfl rfl (any_of HT_.out (by kernel_rfl)) (fun _ _ _ h => h) (Or.inr ⟨by rfl, rfl⟩) ?_ ?_
           rotate_left
           ·simp only [Act.put, sI, sZ, sS, i64_w, i32_w]
            rfl
           refine pure_ (i := 35) (N := some 72) (v := ?_) (a' := ?_) (TF 36 0) rfl rfl (any_of HT_.out (by kernel_rfl)) (fun _ _ _ h => h) (Or.inl ⟨by rfl, ?_⟩) ?_ ?_
           rotate_left; · intro w'; go_simp; with_reducible rfl
           rotate_left; · simp only [Act.put, sI, sZ, sS, i64_w, i32_w]; rfl
           refine done_ (done_of HT_.out (by kernel_rfl)) ?_
           try go_wp2
           go_meet
           case rel => exact ⟨_, (true), (by first | rfl | (simp; done) | (simp [*]; done)), H', ⟨by have := HK1.out; first | omega | exact Nat.le_refl _⟩, ⟨by apply Kd.R_to; exact HO_4.out⟩, ⟨by apply Kd.R_to; exact HO_7.out⟩, ⟨by (with_reducible repeat (first | apply Kd.S_alloc | apply Kd.S_drewN | apply Kd.S_drew)); exact HO_302001.out⟩, ⟨by refine bT ?_; exact BK296.out⟩, ⟨by refine bT ?_; exact BK301.out⟩, ⟨bA⟩⟩
         ·rw [if_neg c15] at H
          have c15b0 : (((rd_T26 t297 x8_1).f1) == 0) = false := beq_eq_false_iff_ne.mpr c15
          have c15b1 : (((rd_T26 t297 x8_1).f1) != 0) = true := bne_iff_ne.mpr c15
          (first | rw [c15b0] | (simp only [i64_w, i32_w]; rw [c15b0]) | skip)
          have H' := Ax.mk H
          clear H
          try go_wp2
          have n0_ := Ax.mk (Kd.R_drew HO_4.out)
          have n1_ := Ax.mk (Kd.R_drew HO_7.out)
          have n2_ := Ax.mk (Kd.S_drew HO_302001.out)
          have n3_ := Ax.mk (blk_drew BK296.out)
          have n4_ := Ax.mk (blk_drew BK301.out)
          have n5_ := Ax.mk (below_drew1 HB.out)
          clear HO_4
          clear HO_7
          clear HO_302001
          clear BK296
          clear BK301
          clear HB
          have HO_4 := n0_
          have HO_7 := n1_
          have HO_302001 := n2_
          have BK296 := n3_
          have BK301 := n4_
          have HB := n5_
          clear n0_ n1_ n2_ n3_ n4_ n5_
          have p307 : 0 ≤ (x8_1 : Int) := ofD
          have q307 : x8_1 < (t297.length : Int) := ofD
          obtain ⟨ad307, e307, hx307_0, hx307_1, hx307_2, hx307_3, hx307_4⟩ := at_T26 (Kd.R_reads' HO_4.out).2.2 x8_1 p307 q307
          obtain rfl : ad302 = ad307 := (by injection e307)
          replace p307 := eq_true p307
          replace q307 := eq_true q307
          refine start_ (n := 36) (S := fun w' => w'.cell? (ad302.add ((x8_1).toNat * 5)) = some (.int .i64 ((rd_T26 t297 x8_1).f0)) ∧ w'.cell? ⟨(ad302.add ((x8_1).toNat * 5)).block, (ad302.add ((x8_1).toNat * 5)).off + 1, none⟩ = some (.int .i64 ((rd_T26 t297 x8_1).f1)) ∧ w'.cell? ⟨(ad302.add ((x8_1).toNat * 5)).block, (ad302.add ((x8_1).toNat * 5)).off + 2, none⟩ = some (.int .i64 ((rd_T26 t297 x8_1).f2)) ∧ w'.cell? ⟨(ad302.add ((x8_1).toNat * 5)).block, (ad302.add ((x8_1).toNat * 5)).off + 3, none⟩ = some (.int .u64 ((rd_T26 t297 x8_1).f3)) ∧ w'.cell? ⟨(ad302.add ((x8_1).toNat * 5)).block, (ad302.add ((x8_1).toNat * 5)).off + 4, none⟩ = some (.string ((rd_T26 t297 x8_1).f4))) (ds := []) (TF 0 36) (by kernel_rfl) rfl rfl ⟨hx307_0, hx307_1, hx307_2, hx307_3, hx307_4⟩ (fun hHeld => ?_); refine with_tabW r13_Read.tab9 r13_Read.bits9 (fun HT_ HW_ => ?_)
          generalize wr.drew = w26 at HO_4 HO_7 HO_302001 BK296 BK301 HB hx307_0 hx307_1 hx307_2 hx307_3 hx307_4 hHeld ⊢
          refine pure_ (i := 0) (N := some 37) (v := ?_) (a' := ?_) (TF 1 35) rfl rfl (any_of HT_.out (by kernel_rfl)) (fun _ _ _ h => h) (Or.inl ⟨by rfl, ?_⟩) ?_ ?_
          rotate_left; · intro w'; go_simp; with_reducible rfl
          rotate_left; · simp only [Act.put, sI, sZ, sS, i64_w, i32_w]; rfl
          refine pure_ (i := 1) (N := some 38) (v := ?_) (a' := ?_) (TF 2 34) rfl rfl (any_of HT_.out (by kernel_rfl)) (fun _ _ _ h => h) (Or.inl ⟨by rfl, ?_⟩) ?_ ?_
          rotate_left; · intro w'; go_simp; with_reducible rfl
          rotate_left; · simp only [Act.put, sI, sZ, sS, i64_w, i32_w]; rfl
          refine pure_ (i := 2) (N := some 39) (v := ?_) (a' := ?_) (TF 3 33) rfl rfl (any_of HT_.out (by kernel_rfl)) (fun _ _ _ h => h) (Or.inl ⟨by rfl, ?_⟩) ?_ ?_
          rotate_left; · intro w'; go_simp; with_reducible rfl
          rotate_left; · simp only [Act.put, sI, sZ, sS, i64_w, i32_w]; rfl
          refine pure_ (i := 3) (N := some 40) (v := ?_) (a' := ?_) (TF 4 32) rfl rfl (any_of HT_.out (by kernel_rfl)) (fun _ _ _ h => h) (Or.inl ⟨by rfl, ?_⟩) ?_ ?_
          rotate_left; · intro w'; go_simp; with_reducible rfl
          rotate_left; · simp only [Act.put, sI, sZ, sS, i64_w, i32_w]; rfl
          refine take_ (i := 4) (N := some 41) (v := ?_) (a' := ?_) (TF 5 31) rfl rfl (take_ofW HT_.out HW_.out (by kernel_rfl)) (fun _ _ _ h => h) (Or.inl ⟨by rfl, ?_⟩) hHeld ?_ ?_
          rotate_left
          ·rintro w' ⟨s0, s1, s2, s3, s4⟩
           go_simp
           with_reducible rfl
          rotate_left
          ·simp only [Act.put, sI, sZ, sS, i64_w, i32_w]
           rfl
          refine pure_ (i := 5) (N := some 42) (v := ?_) (a' := ?_) (TF 6 30) rfl rfl (any_of HT_.out (by kernel_rfl)) (fun _ _ _ h => h) (Or.inl ⟨by rfl, ?_⟩) ?_ ?_
          rotate_left; · intro w'; go_simp; with_reducible rfl
          rotate_left; · simp only [Act.put, sI, sZ, sS, i64_w, i32_w]; rfl
          refine pure_ (i := 6) (N := some 43) (v := ?_) (a' := ?_) (TF 7 29) rfl rfl (any_of HT_.out (by kernel_rfl)) (fun _ _ _ h => h) (Or.inl ⟨by rfl, ?_⟩) ?_ ?_
          rotate_left; · intro w'; go_simp; with_reducible rfl
          rotate_left; · simp only [Act.put, sI, sZ, sS, i64_w, i32_w]; rfl
          refine pure_ (i := 7) (N := some 44) (v := undef) (a' := ?_) (TF 8 28) rfl rfl (any_of HT_.out (by kernel_rfl)) (fun _ _ _ h => h) (Or.inr ⟨by rfl, rfl⟩) ?_ ?_
          rotate_left
          ·simp only [Act.put, sI, sZ, sS, i64_w, i32_w]
           rfl
          refine pure_ (i := 8) (N := some 45) (v := undef) (a' := ?_) (TF 9 27) rfl rfl (any_of HT_.out (by kernel_rfl)) (fun _ _ _ h => h) (Or.inr ⟨by rfl, rfl⟩) ?_ ?_
          rotate_left
          ·simp only [Act.put, sI, sZ, sS, i64_w, i32_w]
           rfl
          refine pure_ (i := 9) (N := some 46) (v := undef) (a' := ?_) (TF 10 26) rfl rfl (any_of HT_.out (by kernel_rfl)) (fun _ _ _ h => h) (Or.inr ⟨by rfl, rfl⟩) ?_ ?_
          rotate_left
          ·simp only [Act.put, sI, sZ, sS, i64_w, i32_w]
           rfl
          refine pure_ (i := 10) (N := some 47) (v := undef) (a' := ?_) (TF 11 25) rfl rfl (any_of HT_.out (by kernel_rfl)) (fun _ _ _ h => h) (Or.inr ⟨by rfl, rfl⟩) ?_ ?_
          rotate_left
          ·simp only [Act.put, sI, sZ, sS, i64_w, i32_w]
           rfl
          refine pure_ (i := 11) (N := some 48) (v := undef) (a' := ?_) (TF 12 24) rfl rfl (any_of HT_.out (by kernel_rfl)) (fun _ _ _ h => h) (Or.inr ⟨by rfl, rfl⟩) ?_ ?_
          rotate_left
          ·simp only [Act.put, sI, sZ, sS, i64_w, i32_w]
           rfl
          refine pure_ (i := 12) (N := some 49) (v := undef) (a' := ?_) (TF 13 23) rfl rfl (any_of HT_.out (by kernel_rfl)) (fun _ _ _ h => h) (Or.inr ⟨by rfl, rfl⟩) ?_ ?_
          rotate_left
          ·simp only [Act.put, sI, sZ, sS, i64_w, i32_w]
           rfl
          refine pure_ (i := 13) (N := some 50) (v := ?_) (a' := ?_) (TF 14 22) rfl rfl (any_of HT_.out (by kernel_rfl)) (fun _ _ _ h => h) (Or.inl ⟨by rfl, ?_⟩) ?_ ?_
          rotate_left; · intro w'; go_simp; with_reducible rfl
          rotate_left; · simp only [Act.put, sI, sZ, sS, i64_w, i32_w]; rfl
          refine pure_ (i := 14) (N := some 51) (v := ?_) (a' := ?_) (TF 15 21) rfl rfl (any_of HT_.out (by kernel_rfl)) (fun _ _ _ h => h) (Or.inl ⟨by rfl, ?_⟩) ?_ ?_
          rotate_left; · intro w'; go_simp; with_reducible rfl
          rotate_left; · simp only [Act.put, sI, sZ, sS, i64_w, i32_w]; rfl
          refine pure_ (i := 15) (N := some 52) (v := undef) (a' := ?_) (TF 16 20) rfl rfl (any_of HT_.out (by kernel_rfl)) (fun _ _ _ h => h) (Or.inr ⟨by rfl, rfl⟩) ?_ ?_
          rotate_left
          ·simp only [Act.put, sI, sZ, sS, i64_w, i32_w]
           rfl
          refine pure_ (i := 16) (N := some 53) (v := undef) (a' := ?_) (TF 17 19) rfl rfl (any_of HT_.out (by kernel_rfl)) (fun _ _ _ h => h) (Or.inr ⟨by rfl, rfl⟩) ?_ ?_
          rotate_left
          ·simp only [Act.put, sI, sZ, sS, i64_w, i32_w]
           rfl
          refine pure_ (i := 17) (N := some 54) (v := undef) (a' := ?_) (TF 18 18) rfl rfl (any_of HT_.out (by kernel_rfl)) (fun _ _ _ h => h) (Or.inr ⟨by rfl, rfl⟩) ?_ ?_
          rotate_left
          ·simp only [Act.put, sI, sZ, sS, i64_w, i32_w]
           rfl
          refine pure_ (i := 18) (N := some 55) (v := undef) (a' := ?_) (TF 19 17) rfl rfl (any_of HT_.out (by kernel_rfl)) (fun _ _ _ h => h) (Or.inr ⟨by rfl, rfl⟩) ?_ ?_
          rotate_left
          ·simp only [Act.put, sI, sZ, sS, i64_w, i32_w]
           rfl
          refine pure_ (i := 19) (N := some 56) (v := undef) (a' := ?_) (TF 20 16) rfl rfl (any_of HT_.out (by kernel_rfl)) (fun _ _ _ h => h) (Or.inr ⟨by rfl, rfl⟩) ?_ ?_
          rotate_left
          ·simp only [Act.put, sI, sZ, sS, i64_w, i32_w]
           rfl
          refine pure_ (i := 20) (N := some 57) (v := undef) (a' := ?_) (TF 21 15) rfl rfl (any_of HT_.out (by kernel_rfl)) (fun _ _ _ h => h) (Or.inr ⟨by rfl, rfl⟩) ?_ ?_
          rotate_left
          ·simp only [Act.put, sI, sZ, sS, i64_w, i32_w]
           rfl
          refine pure_ (i := 21) (N := some 58) (v := undef) (a' := ?_) (TF 22 14) rfl rfl (any_of HT_.out (by kernel_rfl)) (fun _ _ _ h => h) (Or.inr ⟨by rfl, rfl⟩) ?_ ?_
          rotate_left
          ·simp only [Act.put, sI, sZ, sS, i64_w, i32_w]
           rfl
          refine pure_ (i := 22) (N := some 59) (v := undef) (a' := ?_) (TF 23 13) rfl rfl (any_of HT_.out (by kernel_rfl)) (fun _ _ _ h => h) (Or.inr ⟨by rfl, rfl⟩) ?_ ?_
          rotate_left
          ·simp only [Act.put, sI, sZ, sS, i64_w, i32_w]
           rfl
          refine pure_ (i := 23) (N := some 60) (v := undef) (a' := ?_) (TF 24 12) rfl rfl (any_of HT_.out (by kernel_rfl)) (fun _ _ _ h => h) (Or.inr ⟨by rfl, rfl⟩) ?_ ?_
          rotate_left
          ·simp only [Act.put, sI, sZ, sS, i64_w, i32_w]
           rfl
          refine pure_ (i := 24) (N := some 61) (v := undef) (a' := ?_) (TF 25 11) rfl rfl (any_of HT_.out (by kernel_rfl)) (fun _ _ _ h => h) (Or.inr ⟨by rfl, rfl⟩) ?_ ?_
          rotate_left
          ·simp only [Act.put, sI, sZ, sS, i64_w, i32_w]
           rfl
          refine pure_ (i := 25) (N := some 62) (v := undef) (a' := ?_) (TF 26 10) rfl rfl (any_of HT_.out (by kernel_rfl)) (fun _ _ _ h => h) (Or.inr ⟨by rfl, rfl⟩) ?_ ?_
          rotate_left
          ·simp only [Act.put, sI, sZ, sS, i64_w, i32_w]
           rfl
          refine pure_ (i := 26) (N := some 63) (v := undef) (a' := ?_) (TF 27 9) rfl rfl (any_of HT_.out (by kernel_rfl)) (fun _ _ _ h => h) (Or.inr ⟨by rfl, rfl⟩) ?_ ?_
          rotate_left
          ·simp only [Act.put, sI, sZ, sS, i64_w, i32_w]
           rfl
          refine pure_ (i := 27) (N := some 64) (v := undef) (a' := ?_) (TF 28 8) rfl rfl (any_of HT_.out (by kernel_rfl)) (fun _ _ _ h => h) (Or.inr ⟨by rfl, rfl⟩) ?_ ?_
          rotate_left
          ·simp only [Act.put, sI, sZ, sS, i64_w, i32_w]
           rfl
          refine pure_ (i := 28) (N := some 65) (v := undef) (a' := ?_) (TF 29 7) rfl rfl (any_of HT_.out (by kernel_rfl)) (fun _ _ _ h => h) (Or.inr ⟨by rfl, rfl⟩) ?_ ?_
          rotate_left
          ·simp only [Act.put, sI, sZ, sS, i64_w, i32_w]
           rfl
          refine pure_ (i := 29) (N := some 66) (v := undef) (a' := ?_) (TF 30 6) rfl rfl (any_of HT_.out (by kernel_rfl)) (fun _ _ _ h => h) (Or.inr ⟨by rfl, rfl⟩) ?_ ?_
          rotate_left
          ·simp only [Act.put, sI, sZ, sS, i64_w, i32_w]
           rfl
          refine pure_ (i := 30) (N := some 67) (v := undef) (a' := ?_) (TF 31 5) rfl rfl (any_of HT_.out (by kernel_rfl)) (fun _ _ _ h => h) (Or.inr ⟨by rfl, rfl⟩) ?_ ?_
          rotate_left
          ·simp only [Act.put, sI, sZ, sS, i64_w, i32_w]
           rfl
          refine pure_ (i := 31) (N := some 68) (v := undef) (a' := ?_) (TF 32 4) rfl rfl (any_of HT_.out (by kernel_rfl)) (fun _ _ _ h => h) (Or.inr ⟨by rfl, rfl⟩) ?_ ?_
          rotate_left
          ·simp only [Act.put, sI, sZ, sS, i64_w, i32_w]
           rfl
          refine pure_ (i := 32) (N := some 69) (v := undef) (a' := ?_) (TF 33 3) rfl rfl (any_of HT_.out (by kernel_rfl)) (fun _ _ _ h => h) (Or.inr ⟨by rfl, rfl⟩) ?_ ?_
          rotate_left
          ·simp only [Act.put, sI, sZ, sS, i64_w, i32_w]
           rfl
          refine pure_ (i := 33) (N := some 70) (v := undef) (a' := ?_) (TF 34 2) rfl rfl (any_of HT_.out (by kernel_rfl)) (fun _ _ _ h => h) (Or.inr ⟨by rfl, rfl⟩) ?_ ?_
          rotate_left
          ·simp only [Act.put, sI, sZ, sS, i64_w, i32_w]
           rfl
          refine pure_ (i := 34) (N := some 71) (v := undef) (a' := ?_) (TF 35 1) rfl rfl (any_of HT_.out (by kernel_rfl)) (fun _ _ _ h => h) (Or.inr ⟨by rfl, rfl⟩) ?_ ?_
          rotate_left
          ·simp only [Act.put, sI, sZ, sS, i64_w, i32_w]
           rfl
          refine pure_ (i := 35) (N := some 72) (v := ?_) (a' := ?_) (TF 36 0) rfl rfl (any_of HT_.out (by kernel_rfl)) (fun _ _ _ h => h) (Or.inl ⟨by rfl, ?_⟩) ?_ ?_
          rotate_left; · intro w'; go_simp; with_reducible rfl
          rotate_left; · simp only [Act.put, sI, sZ, sS, i64_w, i32_w]; rfl
          refine done_ (done_of HT_.out (by kernel_rfl)) ?_
          try go_wp2
          go_meet
          case rel => exact ⟨_, (true), (by first | rfl | (simp; done) | (simp [*]; done)), H', ⟨by have := HK1.out; first | omega | exact Nat.le_refl _⟩, ⟨by apply Kd.R_to; exact HO_4.out⟩, ⟨by apply Kd.R_to; exact HO_7.out⟩, ⟨by (with_reducible repeat (first | apply Kd.S_alloc | apply Kd.S_drewN | apply Kd.S_drew)); exact HO_302001.out⟩, ⟨by refine bT ?_; exact BK296.out⟩, ⟨by refine bT ?_; exact BK301.out⟩, ⟨bA⟩⟩
        case rest =>
         clear HC14
         try clear c1
         try clear p2
         try clear p3
         try clear q3
         try clear hx3
         try clear c15
         try clear c15b0
         try clear c15b1
         try clear c16
         try clear c16b0
         try clear c16b1
         try clear hx307_0
         try clear hx307_1
         try clear hx307_2
         try clear hx307_3
         try clear hx307_4
         try clear hx308_0
         try clear hx308_1
         try clear hx308_2
         try clear hx308_3
         try clear hx308_4
         try clear p307
         try clear p308
         try clear q307
         try clear q308
         obtain ⟨kq, x72_13, rfl, HA, HJ13, HO_4, HO_7, HO_302001, BK296, BK301, HB⟩ := hcut
         cases kq with
         | zero => exact absurd HA.out (by simp [r13_Read.j1])
         | succ kj13 =>
          have H := HA.out
          clear HA
          simp only [r13_Read.j1] at H
          by_cases c27 : x72_13 = true
          ·subst c27
           have H1 : (r13_Read.j3 kj13 x302000_1 x302001_1 x302002_1) = some (r1, r2, r3, r4) := by rw [if_pos rfl] at H; exact H
           clear H
           have H := H1
           clear H1
           have H' := Ax.mk H
           clear H
           go_wp2
           go_meet
           case rel => exact ⟨_, (x302000_1), (x302001_1), (x302002_1), (u302001), H', ⟨by have := HK1.out; have := HJ13.out; first | omega | exact Nat.le_refl _⟩, ⟨by (with_reducible repeat (first | apply Kd.S_alloc | apply Kd.S_drewN | apply Kd.S_drew)); exact Kd.S_mono HO_302001.out (fun _ hk => trivial)⟩, ⟨by refine bT ?_; exact BK296.out⟩, ⟨by refine bT ?_; exact BK301.out⟩, ⟨bA⟩⟩
          ·replace c27 := Bool.eq_false_iff.mpr c27
           subst c27
           have H1 : (if 0 ≤ x8_1 then (if x8_1 < (t297.length : Int) then ((r13_bytes.f kj13 ((rd_T26 t297 x8_1).f3) x7_1).bind fun bt312 => (if x302001_1.length < 4398046511104 then (if x302002_1.size + bt312.1.size ≤ 9223372036854775807 then (r13_Read.j2 kj13 t297 ([] : List (S26)) x8_1 ((rd_T26 t297 x8_1).f3) (x302001_1 ++ [(⟨(rd_T26 t297 x8_1).f3, x7_1⟩ : S46)]) (x302002_1 ++ bt312.1)) else (none)) else (none))) else (none)) else (none)) = some (r1, r2, r3, r4) := by rw [if_neg (show ¬ (false = true) by decide)] at H; exact H
           clear H
           have H := H1
           clear H1
           by_cases c28 : 0 ≤ x8_1
           ·rw [if_pos c28] at H
            have c28b0 : decide (0 ≤ x8_1) = true := decide_eq_true c28
            clear c28
            by_cases c29 : x8_1 < (t297.length : Int)
            ·rw [if_pos c29] at H
             have c29b0 : decide (x8_1 < (t297.length : Int)) = true := decide_eq_true c29
             clear c29
             replace H := Option.bind_eq_some_iff.mp H
             obtain ⟨⟨t312, t313⟩, A300, H⟩ := H
             replace H : (if x302001_1.length < 4398046511104 then (if x302002_1.size + t312.size ≤ 9223372036854775807 then (r13_Read.j2 kj13 t297 ([] : List (S26)) x8_1 ((rd_T26 t297 x8_1).f3) (x302001_1 ++ [(⟨(rd_T26 t297 x8_1).f3, x7_1⟩ : S46)]) (x302002_1 ++ t312)) else (none)) else (none)) = some (r1, r2, r3, r4) := H
             have A30 := Ax.mk A300
             clear A300
             by_cases c31 : x302001_1.length < 4398046511104
             ·rw [if_pos c31] at H
              have LMc31 := Ax.mk c31
              clear c31
              obtain ⟨y314, hy314⟩ : ∃ y_ : List (S46), y_ = (x302001_1 ++ [(⟨(rd_T26 t297 x8_1).f3, x7_1⟩ : S46)]) := ⟨_, rfl⟩
              replace H : (if x302002_1.size + t312.size ≤ 9223372036854775807 then (r13_Read.j2 kj13 t297 ([] : List (S26)) x8_1 ((rd_T26 t297 x8_1).f3) y314 (x302002_1 ++ t312)) else (none)) = some (r1, r2, r3, r4) := by first | (rw [hy314]; with_reducible exact H) | (have H2_ := (Option.bind_some _ _).symm.trans H; rw [hy314]; with_reducible exact H2_) | (have H2_ := (Option.bind_some _ _).symm.trans H; with_reducible exact H2_) | with_reducible exact H | (rw [hy314]; exact H) | exact H
              have Ny314 := Ax.mk hy314
              clear hy314
              by_cases c32 : x302002_1.size + t312.size ≤ 9223372036854775807
              ·rw [if_pos c32] at H
               have c32b0 := eq_true c32
               have c32b1 : decide (x302002_1.size + t312.size ≤ 9223372036854775807) = true := decide_eq_true c32
               try have c32b2 : (9223372036854775807 < x302002_1.size + t312.size) = False := eq_false (Nat.not_lt.2 c32)
               have H' := Ax.mk H
               clear H
               have p310 : 0 ≤ (x8_1 : Int) := ofD
               have q310 : x8_1 < (t297.length : Int) := ofD
               obtain ⟨ad310, e310, hx310_0, hx310_1, hx310_2, hx310_3, hx310_4⟩ := at_T26 (Kd.R_reads' HO_4.out).2.2 x8_1 p310 q310
               obtain rfl : ad302 = ad310 := (by injection e310)
               replace p310 := eq_true p310
               replace q310 := eq_true q310
               obtain ⟨Ao33, co33, eo33⟩ := Kd.R_slice HO_7.out
               subst eo33
               go_wp2_with (first | ((with_reducible refine gate_dst (N := 9) rfl ?_); (try (refine gate_guard (by rfl) ?_; dsimp only)); refine box_event ?hg (N := 9) ?hd (cs := #[.int .u64 0, .slice none 0 0]) (t := 46) ?hr ?_; (case hd => rfl); (case hg => rfl); (case hr => first | (go_simp; done) | (go_simp; rfl)); intro gb311 hg w34 hbox hb; have n0_ := Ax.mk (Kd.R_below (by exact Kd.R_to HO_4.out) hb); have n1_ := Ax.mk (Kd.R_below (by exact Kd.R_to HO_7.out) hb); have n2_ := Ax.mk (Kd.S_below (Kd.S_elderB (by (with_reducible repeat (first | apply Kd.S_alloc | apply Kd.S_drewN | apply Kd.S_drew)); exact HO_302001.out) gb311 (Nat.le_of_eq hg.symm)) hb); have n3_ := Ax.mk (bB (bT BK296.out) hb); have n4_ := Ax.mk (bB (bT BK301.out) hb); have n5_ := Ax.mk (bP bA hb); have n6_ := Ax.mk (hbox); have n7_ := Ax.mk ((ge_new hg : w.heap.size ≤ gb311)); have n8_ := n7_; have n9_ := Ax.mk ((ne_lt hg BK296.out : gb296 ≠ gb311)); have n10_ := Ax.mk ((ne_gt hg BK296.out : gb311 ≠ gb296)); have n11_ := Ax.mk ((ne_lt hg BK301.out : gb301 ≠ gb311)); have n12_ := Ax.mk ((ne_gt hg BK301.out : gb311 ≠ gb301)); clear HO_4; clear HO_7; clear HO_302001; clear BK296; clear BK301; clear HB; have HO_4 := n0_; have HO_7 := n1_; have HO_302001 := n2_; have BK296 := n3_; have BK301 := n4_; have HB := n5_; have BK311 := n6_; have GW311 := n7_; have GE311 := n8_; have NB296_311 := n9_; have NB311_296 := n10_; have NB301_311 := n11_; have NB311_301 := n12_; clear n0_ n1_ n2_ n3_ n4_ n5_ n6_ n7_ n8_ n9_ n10_ n11_ n12_; clear hb hbox hg; have hnb35 := NB311_296.out; have hnc35 := NB296_311.out; have hnb36 := NB311_301.out; have hnc36 := NB301_311.out; have hcz37_0 : w34.cell? ⟨gb311, 0, none⟩ = some (.int .u64 0) := (bC BK311.out 0).trans rfl; have hcz37_1 : w34.cell? ⟨gb311, 1, none⟩ = some (.slice none 0 0) := (bC BK311.out 1).trans rfl; have hfz37_0 := bF BK311.out 0; have hfz37_1 := bF BK311.out 1) | ((with_reducible refine gate_callee (f := 65) rfl ?_); refine goesL_ (some 82) rfl rfl Tryd.func65 (by kernel_rfl) rfl #[.agg #[.int .u64 ((rd_T26 t297 x8_1).f3), .slice Ao33 x7_1.length co33]] rfl (by (try simp only [List.map_toArray, List.map_cons, List.map_nil]); first | done | rfl | (simp only [List.length_drop, List.length_take]; rfl) | (rw [wrap_sum2 (by assumption)]; rfl)) ?_; (with_reducible refine (r13_bytes.calls kj13 ((rd_T26 t297 x8_1).f3) _ _ x7_1 t312 t313 _ ?side1 ?side2 A30.out).mono ?_); (case side1 => refine (Kd.R_reads' (e := 26) (base := w.heap.size) (ok := fun k_ => some k_ ≠ (.slice (some ad302) t297.length co11 : Value).ownBlock) (n := x7_1.length) (c := co33) ?_).2.2; exact (by apply Kd.R_to; exact (Kd.R_mono (Kd.R_far (p := ⟨gb311, 1, none⟩) (Kd.R_far (p := ⟨gb311, 0, none⟩) (Kd.R_types HO_7.out BK311.out (by decide)) (fun _ hk => hk.2) (.int .u64 ((rd_T26 t297 x8_1).f3))) (fun _ hk => hk.2) (.slice Ao33 x7_1.length co33)) (fun _ h_ => h_.1)))); (case side2 => exact (Kd.R_reads' HO_7.out).2.1); rintro e w38 ⟨rfl, hb⟩; refine ⟨_, rfl, ?_⟩; have n0_ := Ax.mk (Kd.R_below (by apply Kd.R_to; exact (Kd.R_mono (Kd.R_far (p := ⟨gb311, 1, none⟩) (Kd.R_far (p := ⟨gb311, 0, none⟩) (Kd.R_types HO_4.out BK311.out (by decide)) (fun _ hk => hk.2) (.int .u64 ((rd_T26 t297 x8_1).f3))) (fun _ hk => hk.2) (.slice Ao33 x7_1.length co33)) (fun _ h_ => h_.1))) hb); have n1_ := Ax.mk (Kd.R_below (by apply Kd.R_to; exact (Kd.R_mono (Kd.R_far (p := ⟨gb311, 1, none⟩) (Kd.R_far (p := ⟨gb311, 0, none⟩) (Kd.R_types HO_7.out BK311.out (by decide)) (fun _ hk => hk.2) (.int .u64 ((rd_T26 t297 x8_1).f3))) (fun _ hk => hk.2) (.slice Ao33 x7_1.length co33)) (fun _ h_ => h_.1))) hb); have n2_ := Ax.mk (Kd.S_below (by (with_reducible repeat (first | apply Kd.S_alloc | apply Kd.S_drewN | apply Kd.S_drew)); exact (Kd.S_mono (Kd.S_far (p := ⟨gb311, 1, none⟩) (Kd.S_far (p := ⟨gb311, 0, none⟩) (Kd.S_mono HO_302001.out (fun k_ hk => (⟨hk, hk.2⟩ : _ ∧ k_ ≠ gb311))) (fun _ hk => hk.2) (.int .u64 ((rd_T26 t297 x8_1).f3))) (fun _ hk => hk.2) (.slice Ao33 x7_1.length co33)) (fun _ h_ => h_.1))) hb); have n3_ := Ax.mk (bB (g := gb296) (o := .cells #[.int .u64 0, .slice none 0 0, .string (⟨#[]⟩ : ByteArray)] 68 (0, 0)) (by refine bT ?_; refine bR ?_ NB296_311.out _; refine bT ?_; refine bR ?_ NB296_311.out _; exact bT BK296.out) hb); have n4_ := Ax.mk (bB (g := gb301) (o := .cells #[.int .u64 x302000_1, u302001, .string x302002_1] 68 (0, 0)) (by refine bT ?_; refine bR ?_ NB301_311.out _; refine bT ?_; refine bR ?_ NB301_311.out _; exact bT BK301.out) hb); have n5_ := Ax.mk (bB (g := gb311) (o := .cells #[.int .u64 ((rd_T26 t297 x8_1).f3), .slice Ao33 x7_1.length co33] 46 (0, 0)) (by refine bT ?_; refine bU (cs := #[.int .u64 ((rd_T26 t297 x8_1).f3), .slice none 0 0]) ?_ 1 _ rfl; refine bT ?_; refine bU (cs := #[.int .u64 0, .slice none 0 0]) ?_ 0 _ rfl; exact bT BK311.out) hb); have n6_ := Ax.mk (bP bA hb); clear HO_4; clear HO_7; clear HO_302001; clear BK296; clear BK301; clear BK311; clear HB; have HO_4 := n0_; have HO_7 := n1_; have HO_302001 := n2_; have BK296 := n3_; have BK301 := n4_; have BK311 := n5_; have HB := n6_; clear n0_ n1_ n2_ n3_ n4_ n5_ n6_; (try clear hb); (try clear hb2); (try clear hk); (try clear hi); have hcz39_0 : w38.cell? ⟨gb311, 0, none⟩ = some (.int .u64 ((rd_T26 t297 x8_1).f3)) := (bC BK311.out 0).trans rfl; have hcz39_1 : w38.cell? ⟨gb311, 1, none⟩ = some (.slice Ao33 x7_1.length co33) := (bC BK311.out 1).trans rfl; have hfz39_0 := bF BK311.out 0; have hfz39_1 := bF BK311.out 1; have hnb40 := NB301_296.out; have hnc40 := NB296_301.out; have hcz41_0 : w38.cell? ⟨gb301, 0, none⟩ = some (.int .u64 x302000_1) := (bC BK301.out 0).trans rfl; have hcz41_1 : w38.cell? ⟨gb301, 1, none⟩ = some (u302001) := (bC BK301.out 1).trans rfl; have hcz41_2 : w38.cell? ⟨gb301, 2, none⟩ = some (.string x302002_1) := (bC BK301.out 2).trans rfl; have hfz41_0 := bF BK301.out 0; have hfz41_1 := bF BK301.out 1; have hfz41_2 := bF BK301.out 2) | ((with_reducible refine gate_store (t := 22) (p := 87) rfl ?_); refine store_event (t := 22) (p := 87) (v := ?vo_w42) (w1 := (w38.setCell ⟨gb301, 0, none⟩ (.int .u64 ((rd_T26 t297 x8_1).f3)))) ?hg ?ho ?hn ?hr ?_; (case ho => rfl); (case hg => rfl); (case hn => rfl); (case hr => first | (go_simp; done) | (go_simp; rfl)); intro w42 hw; have n0_ : Ax (Kd.R k26 26 w42 w.heap.size (fun k_ => some k_ ≠ (.slice Ao33 x7_1.length co33 : Value).ownBlock) (.slice (some ad302) t297.length co11) t297) := ⟨(by rw [hw]; exact (by apply Kd.R_to; exact Kd.R_mono (Kd.R_far (p := ⟨gb301, 0, none⟩) (Kd.R_types HO_4.out BK301.out (by decide)) (fun _ hk => hk.2) (.int .u64 ((rd_T26 t297 x8_1).f3))) (fun _ hk => hk.1)))⟩; have n1_ : Ax (Kd.R k26 26 w42 w.heap.size (fun k_ => some k_ ≠ (.slice (some ad302) t297.length co11 : Value).ownBlock) (.slice Ao33 x7_1.length co33) x7_1) := ⟨(by rw [hw]; exact (by apply Kd.R_to; exact Kd.R_mono (Kd.R_far (p := ⟨gb301, 0, none⟩) (Kd.R_types HO_7.out BK301.out (by decide)) (fun _ hk => hk.2) (.int .u64 ((rd_T26 t297 x8_1).f3))) (fun _ hk => hk.1)))⟩; have n2_ : Ax (Kd.S k46 46 w42 w.heap.size (fun k_ => some k_ ≠ (.slice (some ad302) t297.length co11 : Value).ownBlock ∧ some k_ ≠ (.slice Ao33 x7_1.length co33 : Value).ownBlock ∧ k_ ≠ gb311) u302001 x302001_1) := ⟨(by rw [hw]; exact (by (with_reducible repeat (first | apply Kd.S_alloc | apply Kd.S_drewN | apply Kd.S_drew)); exact Kd.S_mono (Kd.S_far (p := ⟨gb301, 0, none⟩) (Kd.S_types HO_302001.out BK301.out (by decide)) (fun _ hk => hk.2) (.int .u64 ((rd_T26 t297 x8_1).f3))) (fun _ hk => ⟨hk.1.1.1, ⟨hk.1.1.2, hk.1.2⟩⟩)))⟩; have n3_ : Ax (w42.heap[gb296]? = some (.cells #[.int .u64 0, .slice none 0 0, .string (⟨#[]⟩ : ByteArray)] 68 (0, 0))) := ⟨(by rw [hw]; exact (by refine bT ?_; refine bR ?_ NB296_301.out _; exact bT BK296.out))⟩; have n4_ : Ax (w42.heap[gb301]? = some (.cells #[.int .u64 ((rd_T26 t297 x8_1).f3), u302001, .string x302002_1] 68 (0, 0))) := ⟨(by rw [hw]; exact (by refine bT ?_; refine bU (cs := #[.int .u64 x302000_1, u302001, .string x302002_1]) ?_ 0 _ rfl; exact bT BK301.out))⟩; have n5_ : Ax (w42.heap[gb311]? = some (.cells #[.int .u64 ((rd_T26 t297 x8_1).f3), .slice Ao33 x7_1.length co33] 46 (0, 0))) := ⟨(by rw [hw]; exact (by refine bT ?_; refine bR ?_ NB311_301.out _; exact bT BK311.out))⟩; have n6_ : Ax (Below w.heap.size w w42) := ⟨(by rw [hw]; exact bA)⟩; clear hw; clear HO_4; clear HO_7; clear HO_302001; clear BK296; clear BK301; clear BK311; clear HB; have HO_4 := n0_; have HO_7 := n1_; have HO_302001 := n2_; have BK296 := n3_; have BK301 := n4_; have BK311 := n5_; have HB := n6_; clear n0_ n1_ n2_ n3_ n4_ n5_ n6_; have hcz43_0 : w42.cell? ⟨gb301, 0, none⟩ = some (.int .u64 ((rd_T26 t297 x8_1).f3)) := (bC BK301.out 0).trans rfl; have hcz43_1 : w42.cell? ⟨gb301, 1, none⟩ = some (u302001) := (bC BK301.out 1).trans rfl; have hcz43_2 : w42.cell? ⟨gb301, 2, none⟩ = some (.string x302002_1) := (bC BK301.out 2).trans rfl; have hfz43_0 := bF BK301.out 0; have hfz43_1 := bF BK301.out 1; have hfz43_2 := bF BK301.out 2; have hcz44_0 : w42.cell? ⟨gb311, 0, none⟩ = some (.int .u64 ((rd_T26 t297 x8_1).f3)) := (bC BK311.out 0).trans rfl; have hcz44_1 : w42.cell? ⟨gb311, 1, none⟩ = some (.slice Ao33 x7_1.length co33) := (bC BK311.out 1).trans rfl; have hfz44_0 := bF BK311.out 0; have hfz44_1 := bF BK311.out 1) | ((with_reducible refine gate_builtin (b := .append) (xs := #[.tmp 89, .tmp 91]) rfl ?_); (try (refine gate_guard (by rfl) ?_; dsimp only)); at_builtin; refine Kd.S_append k46 (w0 := w) w.heap.size rfl (.tmp 89) (.tmp 91) 40 46 (.agg #[(.int .u64 0), (.slice none 0 0)]) 32 rfl Tryd.underlying40 info46 rfl (by decide) (by omega) u302001 x302001_1 (⟨(rd_T26 t297 x8_1).f3, x7_1⟩ : S46) [.int .u64 ((rd_T26 t297 x8_1).f3), .slice Ao33 x7_1.length co33] (fun k_ => some k_ ≠ (.slice (some ad302) t297.length co11 : Value).ownBlock ∧ k_ ≠ gb311) (fun k_ => some k_ = (.slice Ao33 x7_1.length co33 : Value).ownBlock) rfl rfl ?aP (fun k_ hk_ => ((Kd.R_mono (ok' := fun k_ => ((fun k_ => some k_ ≠ (.slice (some ad302) t297.length co11 : Value).ownBlock ∧ k_ ≠ gb311)) k_ ∧ some k_ ≠ (u302001 : Value).ownBlock) (Kd.R_types (Kd.R_apart' (HO_7.out) (Kd.S_typed HO_302001.out) (by decide)) BK311.out (by decide)) (fun k_ hk => ⟨⟨hk.1.1, hk.2⟩, hk.1.2⟩))).1 k_ hk_.symm) ?aF ?aO ?aB ?aS ?aL ?_; (case aP => exact k46_mkM _ _ _ (⟨(rd_T26 t297 x8_1).f3, x7_1⟩ : S46) (Kd.R_mono (Kd.R_tight rfl (Kd.R_mono (ok' := fun k_ => ((fun k_ => some k_ ≠ (.slice (some ad302) t297.length co11 : Value).ownBlock ∧ k_ ≠ gb311)) k_ ∧ some k_ ≠ (u302001 : Value).ownBlock) (Kd.R_types (Kd.R_apart' (HO_7.out) (Kd.S_typed HO_302001.out) (by decide)) BK311.out (by decide)) (fun k_ hk => ⟨⟨hk.1.1, hk.2⟩, hk.1.2⟩))) (fun _ h_ => h_))); (case aB => exact bA); (case aF => exact (fun k_ hk => ⟨Kd.fresh' (Kd.R_lt (by exact Kd.R_to HO_4.out)) k_ hk, Kd.freshB (g := gb311) (o := .cells #[.int .u64 ((rd_T26 t297 x8_1).f3), .slice Ao33 x7_1.length co33] 46 (0, 0)) (bT BK311.out) k_ hk⟩)); (case aO => exact (by (with_reducible repeat (first | apply Kd.S_alloc | apply Kd.S_drewN | apply Kd.S_drew)); exact Kd.S_mono HO_302001.out (fun k_ hk => ⟨⟨hk.1, hk.2.2⟩, fun e_ => hk.2.1 e_⟩))); (case aS => exact (bS bA)); (case aL => have := LMc31.out; omega); intro v315 w45 ho hb hg hat; rw [← Ny314.out] at ho; have n0_ := Ax.mk (Kd.R_over' (by exact Kd.R_to HO_4.out) (Kd.S_typed (by (with_reducible repeat (first | apply Kd.S_alloc | apply Kd.S_drewN | apply Kd.S_drew)); exact HO_302001.out)) (by decide) hg); have n1_ := Ax.mk (blk_grown (g := gb296) (o := .cells #[.int .u64 0, .slice none 0 0, .string (⟨#[]⟩ : ByteArray)] 68 (0, 0)) (bT BK296.out) hg (Kd.S_ne HO_302001.out BK296.out (by decide))); have n2_ := Ax.mk (blk_grown (g := gb301) (o := .cells #[.int .u64 ((rd_T26 t297 x8_1).f3), u302001, .string x302002_1] 68 (0, 0)) (bT BK301.out) hg (Kd.S_ne HO_302001.out BK301.out (by decide))); have n3_ := Ax.mk (blk_grown (g := gb311) (o := .cells #[.int .u64 ((rd_T26 t297 x8_1).f3), .slice Ao33 x7_1.length co33] 46 (0, 0)) (bT BK311.out) hg (Kd.S_away HO_302001.out (fun _ hk => hk.2.2))); have n4_ := Ax.mk (hb); have n5_ := Ax.mk (ho); clear HO_4; clear BK296; clear BK301; clear BK311; clear HB; clear HO_302001; clear HO_7; have HO_4 := n0_; have BK296 := n1_; have BK301 := n2_; have BK311 := n3_; have HB := n4_; have HO316 := n5_; clear n0_ n1_ n2_ n3_ n4_ n5_; clear ho hb hg hat; obtain ⟨Ao46, co46, eo46⟩ := Kd.S_slice HO316.out; subst eo46; have hcz47_0 : w45.cell? ⟨gb301, 0, none⟩ = some (.int .u64 ((rd_T26 t297 x8_1).f3)) := (bC BK301.out 0).trans rfl; have hcz47_1 : w45.cell? ⟨gb301, 1, none⟩ = some (u302001) := (bC BK301.out 1).trans rfl; have hcz47_2 : w45.cell? ⟨gb301, 2, none⟩ = some (.string x302002_1) := (bC BK301.out 2).trans rfl; have hfz47_0 := bF BK301.out 0; have hfz47_1 := bF BK301.out 1; have hfz47_2 := bF BK301.out 2))
               go_meet
               case rel => exact ⟨_, (([] : List (S26))), ((rd_T26 t297 x8_1).f3), (y314), (x302002_1 ++ t312), (.slice Ao46 y314.length co46), H', ⟨by have := HK1.out; have := HJ13.out; first | omega | exact Nat.le_refl _⟩, ⟨by apply Kd.R_to; exact Kd.R_mono (Kd.R_far (p := ⟨gb301, 2, none⟩) (Kd.R_far (p := ⟨gb301, 1, none⟩) (Kd.R_types HO_4.out BK301.out (by decide)) (fun _ hk => hk.2) (.slice Ao46 y314.length co46)) (fun _ hk => hk.2) (.string (x302002_1 ++ t312))) (fun _ hk => (by simp [Value.ownBlock]))⟩, ⟨by first | exact Kd.R_nil _ _ _ _ _ | exact Kd.N_nil _ _ _ _ _ | exact Kd.V_nil _ _ _ _ _ | exact Kd.Q_nil _ _ _ _ _ | exact Kd.S_nil _ _ _ _ _⟩, ⟨by (with_reducible repeat (first | apply Kd.S_alloc | apply Kd.S_drewN | apply Kd.S_drew)); exact Kd.S_mono (Kd.S_far (p := ⟨gb301, 2, none⟩) (Kd.S_far (p := ⟨gb301, 1, none⟩) (Kd.S_types HO316.out BK301.out (by decide)) (fun _ hk => hk.2) (.slice Ao46 y314.length co46)) (fun _ hk => hk.2) (.string (x302002_1 ++ t312))) (fun _ hk => ⟨hk.1.1, (by simp [Value.ownBlock])⟩)⟩, ⟨by refine bT ?_; refine bR ?_ NB296_301.out _; refine bT ?_; refine bR ?_ NB296_301.out _; refine bT ?_; exact BK296.out⟩, ⟨by refine bT ?_; refine bU (cs := #[.int .u64 ((rd_T26 t297 x8_1).f3), .slice Ao46 y314.length co46, .string x302002_1]) ?_ 2 _ rfl; refine bT ?_; refine bU (cs := #[.int .u64 ((rd_T26 t297 x8_1).f3), u302001, .string x302002_1]) ?_ 1 _ rfl; refine bT ?_; exact BK301.out⟩, ⟨bA⟩⟩
              ·rw [if_neg c32] at H
               exact absurd H (by simp)
             ·rw [if_neg c31] at H
              exact absurd H (by simp)
            ·rw [if_neg c29] at H
             exact absurd H (by simp)
           ·rw [if_neg c28] at H
            exact absurd H (by simp)
       ·rw [if_neg c13] at H
        have c13b0 : (((rd_T26 t297 x8_1).f0) == 8) = false := beq_eq_false_iff_ne.mpr c13
        have c13b1 : (((rd_T26 t297 x8_1).f0) != 8) = true := bne_iff_ne.mpr c13
        by_cases c48 : x7_1.length < 2932031007402
        ·rw [if_pos c48] at H
         have LMc48 := Ax.mk c48
         clear c48
         obtain ⟨y304, hy304⟩ : ∃ y_ : List (S26), y_ = (x7_1 ++ [(⟨(rd_T26 t297 x8_1).f0, (rd_T26 t297 x8_1).f1, (rd_T26 t297 x8_1).f2, (rd_T26 t297 x8_1).f3, (rd_T26 t297 x8_1).f4⟩ : S26)]) := ⟨_, rfl⟩
         replace H : (r13_Read.j2 k1 t297 y304 x8_1 x302000_1 x302001_1 x302002_1) = some (r1, r2, r3, r4) := by first | (rw [hy304]; with_reducible exact H) | (have H2_ := (Option.bind_some _ _).symm.trans H; rw [hy304]; with_reducible exact H2_) | (have H2_ := (Option.bind_some _ _).symm.trans H; with_reducible exact H2_) | with_reducible exact H | (rw [hy304]; exact H) | exact H
         have Ny304 := Ax.mk hy304
         clear hy304
         have H' := Ax.mk H
         clear H
         have p302 : 0 ≤ (x8_1 : Int) := ofD
         have q302 : x8_1 < (t297.length : Int) := ofD
         obtain ⟨ad302, e302, hx302_0, hx302_1, hx302_2, hx302_3, hx302_4⟩ := at_T26 (Kd.R_reads' HO_4.out).2.2 x8_1 p302 q302
         cases e302
         replace p302 := eq_true p302
         replace q302 := eq_true q302
         have p303 : 0 ≤ (x8_1 : Int) := ofD
         have q303 : x8_1 < (t297.length : Int) := ofD
         obtain ⟨ad303, e303, hx303_0, hx303_1, hx303_2, hx303_3, hx303_4⟩ := at_T26 (Kd.R_reads' HO_4.out).2.2 x8_1 p303 q303
         obtain rfl : ad302 = ad303 := (by injection e303)
         replace p303 := eq_true p303
         replace q303 := eq_true q303
         go_wp2_with (first | ((with_reducible refine gate_builtin (b := .append) (xs := #[.tmp 30, .tmp 35]) rfl ?_); (try (refine gate_guard (by rfl) ?_; dsimp only)); at_builtin; refine Kd.R_append k26 (w0 := w) w.heap.size rfl (.tmp 30) (.tmp 35) 27 26 (.agg #[(.int .i64 0), (.int .i64 0), (.int .i64 0), (.int .u64 0), (.string ⟨#[]⟩)]) 48 rfl Tryd.underlying27 info26 rfl (by decide) (by omega) u7 x7_1 (⟨(rd_T26 t297 x8_1).f0, (rd_T26 t297 x8_1).f1, (rd_T26 t297 x8_1).f2, (rd_T26 t297 x8_1).f3, (rd_T26 t297 x8_1).f4⟩ : S26) [.int .i64 ((rd_T26 t297 x8_1).f0), .int .i64 ((rd_T26 t297 x8_1).f1), .int .i64 ((rd_T26 t297 x8_1).f2), .int .u64 ((rd_T26 t297 x8_1).f3), .string ((rd_T26 t297 x8_1).f4)] (fun k_ => some k_ ≠ (.slice (some ad302) t297.length co11 : Value).ownBlock) (fun _ => False) rfl rfl ?aP (fun _ hk => hk.elim) ?aF ?aO ?aB ?aS ?aL ?_; (case aP => exact k26_mkM _ _ _ (⟨(rd_T26 t297 x8_1).f0, (rd_T26 t297 x8_1).f1, (rd_T26 t297 x8_1).f2, (rd_T26 t297 x8_1).f3, (rd_T26 t297 x8_1).f4⟩ : S26)); (case aB => exact bA); (case aF => exact (fun k_ hk => Kd.fresh' (Kd.R_lt (by exact Kd.R_to HO_4.out)) k_ hk)); (case aO => exact (by exact Kd.R_to HO_7.out)); (case aS => exact (bS bA)); (case aL => have := LMc48.out; omega); intro v305 w49 ho hb hg hat; rw [← Ny304.out] at ho; have n0_ := Ax.mk (Kd.R_after (ok := (fun _ => True)) (by apply Kd.R_to; exact Kd.R_mono HO_4.out (fun _ hk => ⟨trivial, hk⟩)) hg hat); have n1_ := Ax.mk (Kd.S_after (ok := (fun k_ => some k_ ≠ (.slice (some ad302) t297.length co11 : Value).ownBlock)) (by (with_reducible repeat (first | apply Kd.S_alloc | apply Kd.S_drewN | apply Kd.S_drew)); exact HO_302001.out) hg hat); have n2_ := Ax.mk (blk_grown (g := gb296) (o := .cells #[.int .u64 0, .slice none 0 0, .string (⟨#[]⟩ : ByteArray)] 68 (0, 0)) (bT BK296.out) hg (Kd.R_ne HO_7.out BK296.out (by decide))); have n3_ := Ax.mk (blk_grown (g := gb301) (o := .cells #[.int .u64 x302000_1, u302001, .string x302002_1] 68 (0, 0)) (bT BK301.out) hg (Kd.R_ne HO_7.out BK301.out (by decide))); have n4_ := Ax.mk (hb); have n5_ := Ax.mk (ho); clear HO_4; clear HO_302001; clear BK296; clear BK301; clear HB; clear HO_7; have HO_4 := n0_; have HO_302001 := n1_; have BK296 := n2_; have BK301 := n3_; have HB := n4_; have HO306 := n5_; clear n0_ n1_ n2_ n3_ n4_ n5_; clear ho hb hg hat))
         go_meet
         case rel => exact ⟨_, (y304), (x302000_1), (x302001_1), (x302002_1), (u302001), H', ⟨by have := HK1.out; first | omega | exact Nat.le_refl _⟩, ⟨by apply Kd.R_to; exact Kd.R_mono HO_4.out (fun _ hk => hk.2)⟩, ⟨by apply Kd.R_to; exact HO306.out⟩, ⟨by (with_reducible repeat (first | apply Kd.S_alloc | apply Kd.S_drewN | apply Kd.S_drew)); exact HO_302001.out⟩, ⟨by refine bT ?_; exact BK296.out⟩, ⟨by refine bT ?_; exact BK301.out⟩, ⟨bA⟩⟩
        ·rw [if_neg c48] at H
         exact absurd H (by simp)
      ·rw [if_neg c12] at H
       exact absurd H (by simp)
     case rest =>
      clear HC10
      try clear c1
      try clear c2
      try clear p2
      try clear c3
      try clear p3
      try clear q3
      try clear hx3
      try clear c4
      try clear c6
      try clear c12
      try clear c13
      try clear c13b0
      try clear c13b1
      try clear c15
      try clear c15b0
      try clear c15b1
      try clear c16
      try clear c16b0
      try clear c16b1
      try clear c27
      try clear c28
      try clear c28b0
      try clear c29
      try clear c29b0
      try clear p30
      try clear q30
      try clear hx30
      try clear c31
      try clear p31
      try clear q31
      try clear hx31
      try clear c32
      try clear c32b0
      try clear c32b1
      try clear c32b2
      try clear c35
      try clear c36
      try clear c40
      try clear c48
      try clear hcz37_0
      try clear hcz37_1
      try clear hcz39_0
      try clear hcz39_1
      try clear hcz41_0
      try clear hcz41_1
      try clear hcz41_2
      try clear hcz43_0
      try clear hcz43_1
      try clear hcz43_2
      try clear hcz44_0
      try clear hcz44_1
      try clear hcz47_0
      try clear hcz47_1
      try clear hcz47_2
      try clear hfz37_0
      try clear hfz37_1
      try clear hfz39_0
      try clear hfz39_1
      try clear hfz41_0
      try clear hfz41_1
      try clear hfz41_2
      try clear hfz43_0
      try clear hfz43_1
      try clear hfz43_2
      try clear hfz44_0
      try clear hfz44_1
      try clear hfz47_0
      try clear hfz47_1
      try clear hfz47_2
      try clear hx302_0
      try clear hx302_1
      try clear hx302_2
      try clear hx302_3
      try clear hx302_4
      try clear hx303_0
      try clear hx303_1
      try clear hx303_2
      try clear hx303_3
      try clear hx303_4
      try clear hx307_0
      try clear hx307_1
      try clear hx307_2
      try clear hx307_3
      try clear hx307_4
      try clear hx308_0
      try clear hx308_1
      try clear hx308_2
      try clear hx308_3
      try clear hx308_4
      try clear hx310_0
      try clear hx310_1
      try clear hx310_2
      try clear hx310_3
      try clear hx310_4
      try clear p2
      try clear p3
      try clear p302
      try clear p303
      try clear p307
      try clear p308
      try clear p310
      try clear q3
      try clear q302
      try clear q303
      try clear q307
      try clear q308
      try clear q310
      obtain ⟨kq, x7_9, x302000_9, x302001_9, x302002_9, u302001, HA, HJ9, HO_4, HO_7, HO_302001, BK296, BK301, HB⟩ := hcut
      cases kq with
      | zero => exact absurd HA.out (by simp [r13_Read.j2])
      | succ kj9 =>
       have H := HA.out
       clear HA
       simp only [r13_Read.j2] at H
       have H' := Ax.mk H
       clear H
       go_wp2
       go_roundg kj9
       case measure => have := HK1.out; have := HJ9.out; omega
       case rel => exact ⟨(x7_9), (wrap64 (x8_1 + 1)), (x302000_9), (x302001_9), (x302002_9), (u302001), (by first | rfl | (simp; done) | (simp [*]; done)), H', ⟨by have := HK1.out; have := HJ9.out; omega⟩, ⟨by apply Kd.R_to; exact HO_4.out⟩, ⟨by apply Kd.R_to; exact HO_7.out⟩, ⟨by (with_reducible repeat (first | apply Kd.S_alloc | apply Kd.S_drewN | apply Kd.S_drew)); exact HO_302001.out⟩, ⟨by refine bT ?_; exact BK296.out⟩, ⟨by refine bT ?_; exact BK301.out⟩, ⟨bA⟩⟩
    ·rw [if_neg c9] at H
     have c9b0 : decide (x8_1 < (t297.length : Int)) = false := decide_eq_false c9
     clear c9
     (first | rw [c9b0] | (simp only [i64_w, i32_w]; rw [c9b0]) | skip)
     have H' := Ax.mk H
     clear H
     obtain ⟨Ao50, co50, eo50⟩ := Kd.R_slice HO_4.out
     subst eo50
     go_wp2
     go_meet
     case rel => exact ⟨_, (x302000_1), (x302001_1), (x302002_1), (u302001), H', ⟨by have := HK1.out; first | omega | exact Nat.le_refl _⟩, ⟨by (with_reducible repeat (first | apply Kd.S_alloc | apply Kd.S_drewN | apply Kd.S_drew)); exact Kd.S_mono HO_302001.out (fun _ hk => trivial)⟩, ⟨by refine bT ?_; exact BK296.out⟩, ⟨by refine bT ?_; exact BK301.out⟩, ⟨bA⟩⟩
 case rest =>
  clear HC3
  try clear c1
  try clear c2
  try clear p2
  try clear c3
  try clear p3
  try clear q3
  try clear hx3
  try clear c4
  try clear c6
  try clear p6
  try clear c9
  try clear c9b0
  try clear c12
  try clear c13
  try clear c13b0
  try clear c13b1
  try clear c15
  try clear c15b0
  try clear c15b1
  try clear c16
  try clear c16b0
  try clear c16b1
  try clear c27
  try clear c28
  try clear c28b0
  try clear c29
  try clear c29b0
  try clear p30
  try clear q30
  try clear hx30
  try clear c31
  try clear p31
  try clear q31
  try clear hx31
  try clear c32
  try clear c32b0
  try clear c32b1
  try clear c32b2
  try clear c35
  try clear c36
  try clear c40
  try clear c48
  try clear hcz37_0
  try clear hcz37_1
  try clear hcz39_0
  try clear hcz39_1
  try clear hcz41_0
  try clear hcz41_1
  try clear hcz41_2
  try clear hcz43_0
  try clear hcz43_1
  try clear hcz43_2
  try clear hcz44_0
  try clear hcz44_1
  try clear hcz47_0
  try clear hcz47_1
  try clear hcz47_2
  try clear hfz37_0
  try clear hfz37_1
  try clear hfz39_0
  try clear hfz39_1
  try clear hfz41_0
  try clear hfz41_1
  try clear hfz41_2
  try clear hfz43_0
  try clear hfz43_1
  try clear hfz43_2
  try clear hfz44_0
  try clear hfz44_1
  try clear hfz47_0
  try clear hfz47_1
  try clear hfz47_2
  try clear hx302_0
  try clear hx302_1
  try clear hx302_2
  try clear hx302_3
  try clear hx302_4
  try clear hx303_0
  try clear hx303_1
  try clear hx303_2
  try clear hx303_3
  try clear hx303_4
  try clear hx307_0
  try clear hx307_1
  try clear hx307_2
  try clear hx307_3
  try clear hx307_4
  try clear hx308_0
  try clear hx308_1
  try clear hx308_2
  try clear hx308_3
  try clear hx308_4
  try clear hx310_0
  try clear hx310_1
  try clear hx310_2
  try clear hx310_3
  try clear hx310_4
  try clear p2
  try clear p3
  try clear p30
  try clear p302
  try clear p303
  try clear p307
  try clear p308
  try clear p31
  try clear p310
  try clear q3
  try clear q30
  try clear q302
  try clear q303
  try clear q307
  try clear q308
  try clear q31
  try clear q310
  obtain ⟨kq, x302000_2, x302001_2, x302002_2, u302001, HA, HJ2, HO_302001, BK296, BK301, HB⟩ := hcut
  cases kq with
  | zero => exact absurd HA.out (by simp [r13_Read.j3])
  | succ kj2 =>
   have H := HA.out
   clear HA
   simp only [r13_Read.j3] at H
   simp only [Option.some.injEq, Prod.mk.injEq] at H
   obtain ⟨rfl, rfl, rfl, rfl⟩ := H
   try go_wp2
   have n0_ := Ax.mk (Kd.S_drew HO_302001.out)
   have n1_ := Ax.mk (blk_drew BK296.out)
   have n2_ := Ax.mk (blk_drew BK301.out)
   have n3_ := Ax.mk (below_drew1 HB.out)
   clear HO_302001
   clear BK296
   clear BK301
   clear HB
   have HO_302001 := n0_
   have BK296 := n1_
   have BK301 := n2_
   have HB := n3_
   clear n0_ n1_ n2_ n3_
   obtain ⟨Ao53, co53, eo53⟩ := Kd.S_slice HO_302001.out
   (first | subst eo53 | (injection eo53 with f1_ f2_ f3_; have f4_ := f1_.symm; have f5_ := f3_.symm; clear f1_ f2_ f3_; subst f4_; subst f5_))
   refine start_ (n := 6) (S := fun w' => w'.cell? ⟨gb301, 0, none⟩ = some (.int .u64 x302000_2) ∧ w'.cell? ⟨gb301, 1, none⟩ = some (.slice Ao53 x302001_2.length co53) ∧ w'.cell? ⟨gb301, 2, none⟩ = some (.string x302002_2)) (ds := []) (TF 0 6) (by kernel_rfl) rfl rfl ⟨(bC BK301.out 0).trans rfl, (bC BK301.out 1).trans rfl, (bC BK301.out 2).trans rfl⟩ (fun hHeld => ?_)
   generalize wc.drew = w51 at HO_302001 BK296 BK301 HB hHeld ⊢
   refine pure_ (i := 1) (N := some 100) (v := ?_) (a' := ?_) (BT 6 2) rfl rfl (by kernel_rfl) (fun _ _ _ h => h) (Or.inl ⟨by rfl, ?_⟩) ?_ ?_
   rotate_left; · intro w'; go_simp; with_reducible rfl
   rotate_left; · simp only [Act.put, sI, sZ, sS, i64_w, i32_w]; rfl
   refine take_ (i := 0) (N := some 99) (v := ?_) (a' := ?_) (TF 2 4) rfl rfl (by kernel_rfl) (fun _ _ _ h => h) (Or.inl ⟨by rfl, ?_⟩) hHeld ?_ ?_
   rotate_left
   ·rintro w' ⟨s0, s1, s2⟩
    go_simp
    with_reducible rfl
   rotate_left
   ·simp only [Act.put, sI, sZ, sS, i64_w, i32_w]
    rfl
   refine take_ (i := 2) (N := some 101) (v := ?_) (a' := ?_) (TF 3 3) rfl rfl (by kernel_rfl) (fun _ _ _ h => h) (Or.inl ⟨by rfl, ?_⟩) hHeld ?_ ?_
   rotate_left
   ·rintro w' ⟨s0, s1, s2⟩
    go_simp
    with_reducible rfl
   rotate_left
   ·simp only [Act.put, sI, sZ, sS, i64_w, i32_w]
    rfl
   refine pure_ (i := 3) (N := some 102) (v := ?_) (a' := ?_) (TF 4 2) rfl rfl (by kernel_rfl) (fun _ _ _ h => h) (Or.inl ⟨by rfl, ?_⟩) ?_ ?_
   rotate_left; · intro w'; go_simp; with_reducible rfl
   rotate_left; · simp only [Act.put, sI, sZ, sS, i64_w, i32_w]; rfl
   refine one_ (i := 4) (N := none) (TF 5 1) rfl rfl (by kernel_rfl) (by decide) (fun K hK => ?_)
   have hs52 : w51.cell? ⟨gb296, 0, none⟩ = some (.int .u64 0) := (bC BK296.out 0).trans rfl
   have hfs52 := bF BK296.out 0
   have hns52_1 := NB301_296.out
   have hms52_1 := NB296_301.out
   have hs54 : w51.cell? ⟨gb296, 1, none⟩ = some (.slice none 0 0) := (bC BK296.out 1).trans rfl
   have hfs54 := bF BK296.out 1
   have hns54_1 := NB301_296.out
   have hms54_1 := NB296_301.out
   have hs55 : w51.cell? ⟨gb296, 2, none⟩ = some (.string (⟨#[]⟩ : ByteArray)) := (bC BK296.out 2).trans rfl
   have hfs55 := bF BK296.out 2
   have hns55_1 := NB301_296.out
   have hms55_1 := NB296_301.out
   refine skip_ (w1 := ?_) (by rfl) rfl ?_ ?_
   rotate_left
   ·go_simp
    rfl
   refine hK.out _ _ ⟨((cell_far (p := ⟨gb296, _, none⟩) NB301_296.out _).trans (((cell_far (p := ⟨gb296, _, none⟩) NB301_296.out _).trans (((cell_far (p := ⟨gb296, _, none⟩) NB301_296.out _).trans (hHeld.1)))))), ((cell_far (p := ⟨gb296, _, none⟩) NB301_296.out _).trans (((cell_far (p := ⟨gb296, _, none⟩) NB301_296.out _).trans (((cell_far (p := ⟨gb296, _, none⟩) NB301_296.out _).trans (hHeld.2.1)))))), ((cell_far (p := ⟨gb296, _, none⟩) NB301_296.out _).trans (((cell_far (p := ⟨gb296, _, none⟩) NB301_296.out _).trans (((cell_far (p := ⟨gb296, _, none⟩) NB301_296.out _).trans (hHeld.2.2))))))⟩ (fun hHeld => ?_)
   clear hK K
   refine pure_ (i := 5) (N := some 3) (v := ?_) (a' := ?_) (TF 6 0) rfl rfl (by kernel_rfl) (fun _ _ _ h => h) (Or.inl ⟨by rfl, ?_⟩) ?_ ?_
   rotate_left; · intro w'; go_simp; with_reducible rfl
   rotate_left; · simp only [Act.put, sI, sZ, sS, i64_w, i32_w]; rfl
   refine done_ (by kernel_rfl) ?_
   try go_wp2
   refine bodyPost_ret (results_ct rfl _ _ gb296 68 #[.int .u64 x302000_2, .slice Ao53 x302001_2.length co53, .string x302002_2] (0, 0) _ rfl (by refine bT ?_; refine bU (cs := #[.int .u64 x302000_2, .slice Ao53 x302001_2.length co53, .string (⟨#[]⟩ : ByteArray)]) ?_ 2 _ rfl; refine bT ?_; refine bU (cs := #[.int .u64 x302000_2, .slice none 0 0, .string (⟨#[]⟩ : ByteArray)]) ?_ 1 _ rfl; refine bT ?_; refine bU (cs := #[.int .u64 0, .slice none 0 0, .string (⟨#[]⟩ : ByteArray)]) ?_ 0 _ rfl; exact bT BK296.out) Tryd.underlying68 rfl (by kernel_rfl)) rfl ?_
   exact ⟨_, by first | rfl | (simp [errW_none, errW_some] <;> rfl) | (simp [*, errW_none, errW_some] <;> rfl), by (with_reducible repeat (first | apply Kd.S_alloc | apply Kd.S_drewN | apply Kd.S_drew)); exact Kd.S_mono (Kd.S_far (p := ⟨gb296, 2, none⟩) (Kd.S_far (p := ⟨gb296, 1, none⟩) (Kd.S_far (p := ⟨gb296, 0, none⟩) (Kd.S_types HO_302001.out BK296.out (by decide)) (fun _ hk => hk.2) (.int .u64 x302000_2)) (fun _ hk => hk.2) (.slice Ao53 x302001_2.length co53)) (fun _ hk => hk.2) (.string x302002_2)) (fun _ hk => trivial), bA⟩
def l13_JournalReads.j0 : Nat → ByteArray → Bool → Bool → Option (Bool)
 | 0, _, _, _ => none
 | k + 1, x0, x3, x15 => if x15 = true then (some x3) else ((journal_Read.f k x0).bind fun bt318 => ((r13_Read.f k x0).bind fun bt325 => ((l13_same.f k bt318.1 bt318.2.1 bt318.2.2.1 bt325.1 bt325.2.1 bt325.2.2.1).bind fun t332 => (if t332 = true then (if bt318.2.2.2 = bt325.2.2.2 then (if bt318.2.2.2 ≤ (x0.size : Int) then (if 0 ≤ bt318.2.2.2 then (some (bt318.2.2.1.toList == (x0.extract 0 (bt318.2.2.2 : Int).toNat).toList)) else (none)) else (none)) else (none)) else (none)))))
def l13_JournalReads.f (k : Nat) (a0 : ByteArray) : Option (Bool) := (l13_shown.f k).bind fun t317 => (if t317 = true then (l13_JournalReads.j0 k a0 t317 (decide ((a0.size : Int) > 3000))) else (l13_JournalReads.j0 k a0 t317 true))
theorem l13_JournalReads.mono_l : ∀ k, (∀ y0 y1 y2, LeO (l13_JournalReads.j0 k y0 y1 y2) (l13_JournalReads.j0 (k + 1) y0 y1 y2))
 | 0 => fun _ _ _ r h => by simp [l13_JournalReads.j0] at h
 | k + 1 => by
  have ih0 := l13_JournalReads.mono_l k
  ·intro y0 y1 y2
   unfold l13_JournalReads.j0
   repeat' first
   | (with_reducible exact journal_Read.mono _ _)
   | (with_reducible exact l13_same.mono _ _ _ _ _ _ _)
   | (with_reducible exact r13_Read.mono _ _)
   | (with_reducible exact LeO.refl _)
   | (with_reducible exact LeO.none _)
   | (with_reducible refine LeO.ite ?_ ?_)
   | (with_reducible refine LeO.bind ?_ (fun _ => ?_))
   | exact journal_Read.mono _ _
   | exact l13_same.mono _ _ _ _ _ _ _
   | exact r13_Read.mono _ _
   | exact LeO.none _
   | refine LeO.ite ?_ ?_
   | refine LeO.bind ?_ (fun _ => ?_)
theorem l13_JournalReads.mono : ∀ a0 k, LeO (l13_JournalReads.f k a0) (l13_JournalReads.f (k + 1) a0) := by
 intro a0 k
 have ih0 := l13_JournalReads.mono_l k
 unfold l13_JournalReads.f
 repeat' first
   | (with_reducible exact ih0 _ _ _)
   | (with_reducible exact journal_Read.mono _ _)
   | (with_reducible exact l13_same.mono _ _ _ _ _ _ _)
   | (with_reducible exact l13_shown.mono _)
   | (with_reducible exact r13_Read.mono _ _)
   | (with_reducible exact LeO.refl _)
   | (with_reducible exact LeO.none _)
   | (with_reducible refine LeO.ite ?_ ?_)
   | (with_reducible refine LeO.bind ?_ (fun _ => ?_))
   | exact ih0 _ _ _
   | exact journal_Read.mono _ _
   | exact l13_same.mono _ _ _ _ _ _ _
   | exact l13_shown.mono _
   | exact r13_Read.mono _ _
   | exact LeO.none _
   | refine LeO.ite ?_ ?_
   | refine LeO.bind ?_ (fun _ => ?_)
def l13_JournalReads.T6 : Bool × List (List Nat × List Nat) := (true, [([], []), ([], []), ([0, 1], [0, 1]), ([2, 2], [2]), ([3], [3]), ([3], [3]), ([4, 5, 3], [3, 4, 5]), ([3, 6], [3, 6]), ([7, 3], [7]), ([8], [8]), ([8], [8]), ([10, 8], [8, 10]), ([9, 11, 8], [8, 9, 11]), ([8, 12], [8, 12]), ([13, 8], [13]), ([14], [14]), ([15, 14], [14, 15]), ([14], [14]), ([14], [14]), ([17, 18, 14], [14, 17, 18]), ([16, 19, 14], [14, 16, 19]), ([14, 20], [14, 20]), ([21, 14, 0, 1, 2, 3, 4, 5, 6, 7, 8, 9, 10, 11, 12, 13, 14, 15, 16, 17, 18, 19, 20, 21], [21])])
def l13_JournalReads.B6 : List Nat := [0, 0, 3, 7, 15, 15, 63, 127, 255, 511, 511, 1535, 4095, 8191, 16383, 32767, 65535, 32767, 32767, 425983, 1048575, 2097151, 4194303]
theorem l13_JournalReads.tab6 : rtab .any (opsOf Tryd.f15 6) = l13_JournalReads.T6 := by kernel_rfl
theorem l13_JournalReads.bits6 : waitsOk l13_JournalReads.T6.2 l13_JournalReads.B6 = true := by kernel_rfl
set_option maxHeartbeats 8000000 in
set_option maxRecDepth 100000 in
theorem l13_JournalReads.calls (k : Nat) (a0 : ByteArray) (r : Bool) (w : World) (h : l13_JournalReads.f k a0 = some r) (HT : Tabs w) :
  Calls Tryd.prog 15 #[.string a0] w fun e w' => e = .returned (.bool r) ∧ Below w.heap.size w w' := by
 have hu66 := Tryd.underlying66
 have hu68 := Tryd.underlying68
 have HB := Ax.mk (Below.refl w.heap.size w)
 have H : ((l13_shown.f k).bind fun t317 => (if t317 = true then (l13_JournalReads.j0 k a0 t317 (decide ((a0.size : Int) > 3000))) else (l13_JournalReads.j0 k a0 t317 true))) = some r := h
 clear h
 replace H := Option.bind_eq_some_iff.mp H
 obtain ⟨t317, A20, H⟩ := H
 replace H : (if t317 = true then (l13_JournalReads.j0 k a0 t317 (decide ((a0.size : Int) > 3000))) else (l13_JournalReads.j0 k a0 t317 true)) = some r := H
 have A2 := Ax.mk A20
 clear A20
 have HC3 := Ax.mk H
 clear H
 go_enter Tryd.func15, Tryd.ntmps15
 go_upto_region 2 with (first | ((with_reducible refine gate_callee (f := 31) rfl ?_); refine goesL_ (some 8) rfl rfl Tryd.func31 (by kernel_rfl) rfl #[] rfl (by (try simp only [List.map_toArray, List.map_cons, List.map_nil]); first | done | rfl | (simp only [List.length_drop, List.length_take]; rfl) | (rw [wrap_sum2 (by assumption)]; rfl)) ?_; (with_reducible refine (l13_shown.calls k  t317 _ A2.out (HT.below bA)).mono ?_); rintro e w4 ⟨rfl, hb⟩; refine ⟨_, rfl, ?_⟩; have n0_ := Ax.mk (bP bA hb); clear HB; have HB := n0_; clear n0_; (try clear hb); (try clear hb2); (try clear hk); (try clear hi)))
 (try simp only [Act.put, sI, sZ, sS])
 go_cut [15] (fun v15 wc => ∃ (kq : Nat) (x15_2 : Bool), v15 = .bool x15_2 ∧ Ax (l13_JournalReads.j0 kq a0 t317 x15_2 = some r) ∧ Ax (kq ≤ k) ∧ Ax (Below w.heap.size w wc))
 case first =>
  have H := HC3.out
  clear HC3
  by_cases c5 : t317 = true
  ·subst c5
   have H1 : (l13_JournalReads.j0 k a0 true (decide ((a0.size : Int) > 3000))) = some r := by rw [if_pos rfl] at H; exact H
   clear H
   have H := H1
   clear H1
   have H' := Ax.mk H
   clear H
   go_wp2
   go_meet
   case rel => exact ⟨_, (decide ((a0.size : Int) > 3000)), (by first | rfl | (simp; done) | (simp [*]; done)), H', ⟨by first | omega | exact Nat.le_refl _⟩, ⟨bA⟩⟩
  ·replace c5 := Bool.eq_false_iff.mpr c5
   subst c5
   have H1 : (l13_JournalReads.j0 k a0 false true) = some r := by rw [if_neg (show ¬ (false = true) by decide)] at H; exact H
   clear H
   have H := H1
   clear H1
   have H' := Ax.mk H
   clear H
   go_wp2
   go_meet
   case rel => exact ⟨_, (true), (by first | rfl | (simp; done) | (simp [*]; done)), H', ⟨by first | omega | exact Nat.le_refl _⟩, ⟨bA⟩⟩
 case rest =>
  clear HC3
  try clear c1
  try clear p2
  try clear c3
  try clear c5
  obtain ⟨kq, x15_2, rfl, HA, HJ2, HB⟩ := hcut
  cases kq with
  | zero => exact absurd HA.out (by simp [l13_JournalReads.j0])
  | succ kj2 =>
   have H := HA.out
   clear HA
   simp only [l13_JournalReads.j0] at H
   by_cases c6 : x15_2 = true
   ·subst c6
    have H1 : (some t317) = some r := by rw [if_pos rfl] at H; exact H
    clear H
    have H := H1
    clear H1
    obtain rfl := Option.some.inj H
    go_wp2
    go_ret
    exact ⟨by first | rfl | (simp [errW_none, errW_some] <;> rfl) | (simp [*, errW_none, errW_some] <;> rfl), bA⟩
   ·replace c6 := Bool.eq_false_iff.mpr c6
    subst c6
    have H1 : ((journal_Read.f kj2 a0).bind fun bt318 => ((r13_Read.f kj2 a0).bind fun bt325 => ((l13_same.f kj2 bt318.1 bt318.2.1 bt318.2.2.1 bt325.1 bt325.2.1 bt325.2.2.1).bind fun t332 => (if t332 = true then (if bt318.2.2.2 = bt325.2.2.2 then (if bt318.2.2.2 ≤ (a0.size : Int) then (if 0 ≤ bt318.2.2.2 then (some (bt318.2.2.1.toList == (a0.extract 0 (bt318.2.2.2 : Int).toNat).toList)) else (none)) else (none)) else (none)) else (none))))) = some r := by rw [if_neg (show ¬ (false = true) by decide)] at H; exact H
    clear H
    have H := H1
    clear H1
    replace H := Option.bind_eq_some_iff.mp H
    obtain ⟨⟨t318, t319, t322, t323⟩, A70, H⟩ := H
    replace H : ((r13_Read.f kj2 a0).bind fun bt325 => ((l13_same.f kj2 t318 t319 t322 bt325.1 bt325.2.1 bt325.2.2.1).bind fun t332 => (if t332 = true then (if t323 = bt325.2.2.2 then (if t323 ≤ (a0.size : Int) then (if 0 ≤ t323 then (some (t322.toList == (a0.extract 0 (t323 : Int).toNat).toList)) else (none)) else (none)) else (none)) else (none)))) = some r := H
    have A7 := Ax.mk A70
    clear A70
    replace H := Option.bind_eq_some_iff.mp H
    obtain ⟨⟨t325, t326, t329, t330⟩, A80, H⟩ := H
    replace H : ((l13_same.f kj2 t318 t319 t322 t325 t326 t329).bind fun t332 => (if t332 = true then (if t323 = t330 then (if t323 ≤ (a0.size : Int) then (if 0 ≤ t323 then (some (t322.toList == (a0.extract 0 (t323 : Int).toNat).toList)) else (none)) else (none)) else (none)) else (none))) = some r := H
    have A8 := Ax.mk A80
    clear A80
    replace H := Option.bind_eq_some_iff.mp H
    obtain ⟨t332, A90, H⟩ := H
    replace H : (if t332 = true then (if t323 = t330 then (if t323 ≤ (a0.size : Int) then (if 0 ≤ t323 then (some (t322.toList == (a0.extract 0 (t323 : Int).toNat).toList)) else (none)) else (none)) else (none)) else (none)) = some r := H
    have A9 := Ax.mk A90
    clear A90
    by_cases c10 : t332 = true
    ·subst c10
     have H1 : (if t323 = t330 then (if t323 ≤ (a0.size : Int) then (if 0 ≤ t323 then (some (t322.toList == (a0.extract 0 (t323 : Int).toNat).toList)) else (none)) else (none)) else (none)) = some r := by rw [if_pos rfl] at H; exact H
     clear H
     have H := H1
     clear H1
     by_cases c11 : t323 = t330
     ·rw [if_pos c11] at H
      have c11b0 : (t323 == t330) = true := beq_iff_eq.mpr c11
      have c11b1 : (t323 != t330) = false := bne_eq_false_iff_eq.mpr c11
      clear c11
      by_cases c12 : t323 ≤ (a0.size : Int)
      ·rw [if_pos c12] at H
       have c12b0 : decide (t323 ≤ (a0.size : Int)) = true := decide_eq_true c12
       clear c12
       by_cases c13 : 0 ≤ t323
       ·rw [if_pos c13] at H
        have c13b0 := eq_true c13
        have c13b1 : decide (0 ≤ t323) = true := decide_eq_true c13
        clear c13
        have c14b0 := eq_true (ofD : t323 ≤ (a0.size : Int))
        obtain rfl := Option.some.inj H
        try go_wp2_with (first | ((with_reducible refine gate_callee (f := 44) rfl ?_); refine goesL_ (some 19) rfl rfl Tryd.func44 (by kernel_rfl) rfl #[.string a0] rfl (by (try simp only [List.map_toArray, List.map_cons, List.map_nil]); first | done | rfl | (simp only [List.length_drop, List.length_take]; rfl) | (rw [wrap_sum2 (by assumption)]; rfl)) ?_; (with_reducible refine (journal_Read.calls kj2 a0 t318 t319 t322 t323 _ A7.out (HT.below bA)).mono ?_); rintro e w15 ⟨v320, rfl, ho0, hb⟩; refine ⟨_, rfl, ?_⟩; have n0_ := Ax.mk (Kd.N_lower (Kd.N_mono (ok' := fun k_ => True) ho0 (fun k_ hk_ => trivial)) (bS bA)); have n1_ := Ax.mk (bP bA hb); clear HB; have HO321 := n0_; have HB := n1_; clear n0_ n1_; (try clear hb); (try clear hb2); (try clear hk); (try clear hi); (try clear ho0)) | ((with_reducible refine gate_dst (N := 4) rfl ?_); (try (refine gate_guard (by rfl) ?_; dsimp only)); refine box_event ?hg (N := 4) ?hd (cs := #[.int .u64 0, .slice none 0 0, .string (⟨#[]⟩ : ByteArray)]) (t := 66) ?hr ?_; (case hd => rfl); (case hg => rfl); (case hr => first | (go_simp; done) | (go_simp; rfl)); intro gb324 hg w16 hbox hb; have n0_ := Ax.mk (Kd.N_below (Kd.N_elderB (by exact Kd.N_to HO321.out) gb324 (Nat.le_of_eq hg.symm)) hb); have n1_ := Ax.mk (bP bA hb); have n2_ := Ax.mk (hbox); have n3_ := Ax.mk ((ge_new hg : w.heap.size ≤ gb324)); have n4_ := n3_; clear HO321; clear HB; have HO321 := n0_; have HB := n1_; have BK324 := n2_; have GW324 := n3_; have GE324 := n4_; clear n0_ n1_ n2_ n3_ n4_; clear hb hbox hg; have hcz17_0 : w16.cell? ⟨gb324, 0, none⟩ = some (.int .u64 0) := (bC BK324.out 0).trans rfl; have hcz17_1 : w16.cell? ⟨gb324, 1, none⟩ = some (.slice none 0 0) := (bC BK324.out 1).trans rfl; have hcz17_2 : w16.cell? ⟨gb324, 2, none⟩ = some (.string (⟨#[]⟩ : ByteArray)) := (bC BK324.out 2).trans rfl; have hfz17_0 := bF BK324.out 0; have hfz17_1 := bF BK324.out 1; have hfz17_2 := bF BK324.out 2; obtain ⟨Ao18, co18, eo18⟩ := Kd.N_slice HO321.out; subst eo18) | ((with_reducible refine gate_callee (f := 45) rfl ?_); refine goesL_ (some 24) rfl rfl Tryd.func45 (by kernel_rfl) rfl #[.string a0] rfl (by (try simp only [List.map_toArray, List.map_cons, List.map_nil]); first | done | rfl | (simp only [List.length_drop, List.length_take]; rfl) | (rw [wrap_sum2 (by assumption)]; rfl)) ?_; (with_reducible refine (r13_Read.calls kj2 a0 t325 t326 t329 t330 _ A8.out).mono ?_); rintro e w19 ⟨v327, rfl, ho0, hb⟩; refine ⟨_, rfl, ?_⟩; have n0_ := Ax.mk (Kd.N_elder' (by apply Kd.N_to; exact (Kd.N_mono (Kd.N_far (p := ⟨gb324, 2, none⟩) (Kd.N_far (p := ⟨gb324, 1, none⟩) (Kd.N_far (p := ⟨gb324, 0, none⟩) (Kd.N_mono HO321.out (fun k_ hk => (⟨hk, hk.2⟩ : _ ∧ k_ ≠ gb324))) (fun _ hk => hk.2) (.int .u64 t318)) (fun _ hk => hk.2) (.slice Ao18 t319.length co18)) (fun _ hk => hk.2) (.string t322)) (fun _ h_ => h_.1))) (Kd.S_base ho0) hb); have n1_ := Ax.mk (Kd.N_lower (Kd.N_mono (ok' := fun k_ => some k_ ≠ (.slice Ao18 t319.length co18 : Value).ownBlock ∧ k_ ≠ gb324) (Kd.S_N (Kd.S_bound ho0)) (fun k_ hk_ => ⟨(Kd.fresh' (Kd.N_lt (by apply Kd.N_to; exact (Kd.N_mono (Kd.N_far (p := ⟨gb324, 2, none⟩) (Kd.N_far (p := ⟨gb324, 1, none⟩) (Kd.N_far (p := ⟨gb324, 0, none⟩) (Kd.N_mono HO321.out (fun k_ hk => (⟨hk, hk.2⟩ : _ ∧ k_ ≠ gb324))) (fun _ hk => hk.2) (.int .u64 t318)) (fun _ hk => hk.2) (.slice Ao18 t319.length co18)) (fun _ hk => hk.2) (.string t322)) (fun _ h_ => h_.1)))) k_ hk_.2.1), (Kd.freshB (g := gb324) (o := .cells #[.int .u64 t318, .slice Ao18 t319.length co18, .string t322] 66 (0, 0)) (by refine bT ?_; refine bU (cs := #[.int .u64 t318, .slice Ao18 t319.length co18, .string (⟨#[]⟩ : ByteArray)]) ?_ 2 _ rfl; refine bT ?_; refine bU (cs := #[.int .u64 t318, .slice none 0 0, .string (⟨#[]⟩ : ByteArray)]) ?_ 1 _ rfl; refine bT ?_; refine bU (cs := #[.int .u64 0, .slice none 0 0, .string (⟨#[]⟩ : ByteArray)]) ?_ 0 _ rfl; exact bT BK324.out) k_ hk_.2.1)⟩)) (bS bA)); have n2_ := Ax.mk (bB (g := gb324) (o := .cells #[.int .u64 t318, .slice Ao18 t319.length co18, .string t322] 66 (0, 0)) (by refine bT ?_; refine bU (cs := #[.int .u64 t318, .slice Ao18 t319.length co18, .string (⟨#[]⟩ : ByteArray)]) ?_ 2 _ rfl; refine bT ?_; refine bU (cs := #[.int .u64 t318, .slice none 0 0, .string (⟨#[]⟩ : ByteArray)]) ?_ 1 _ rfl; refine bT ?_; refine bU (cs := #[.int .u64 0, .slice none 0 0, .string (⟨#[]⟩ : ByteArray)]) ?_ 0 _ rfl; exact bT BK324.out) hb); have n3_ := Ax.mk (bP bA hb); clear HO321; clear BK324; clear HB; have HO321 := n0_; have HO328 := n1_; have BK324 := n2_; have HB := n3_; clear n0_ n1_ n2_ n3_; (try clear hb); (try clear hb2); (try clear hk); (try clear hi); (try clear ho0)) | ((with_reducible refine gate_dst (N := 6) rfl ?_); (try (refine gate_guard (by rfl) ?_; dsimp only)); refine box_event ?hg (N := 6) ?hd (cs := #[.int .u64 0, .slice none 0 0, .string (⟨#[]⟩ : ByteArray)]) (t := 68) ?hr ?_; (case hd => rfl); (case hg => rfl); (case hr => first | (go_simp; done) | (go_simp; rfl)); intro gb331 hg w20 hbox hb; have n0_ := Ax.mk (Kd.N_below (Kd.N_elderB (by exact Kd.N_to HO321.out) gb331 (Nat.le_of_eq hg.symm)) hb); have n1_ := Ax.mk (Kd.N_below (Kd.N_elderB (by exact Kd.N_to HO328.out) gb331 (Nat.le_of_eq hg.symm)) hb); have n2_ := Ax.mk (bB (bT BK324.out) hb); have n3_ := Ax.mk (bP bA hb); have n4_ := Ax.mk (hbox); have n5_ := Ax.mk ((ge_new hg : w.heap.size ≤ gb331)); have n6_ := n5_; have n7_ := Ax.mk ((ne_lt hg BK324.out : gb324 ≠ gb331)); have n8_ := Ax.mk ((ne_gt hg BK324.out : gb331 ≠ gb324)); clear HO321; clear HO328; clear BK324; clear HB; have HO321 := n0_; have HO328 := n1_; have BK324 := n2_; have HB := n3_; have BK331 := n4_; have GW331 := n5_; have GE331 := n6_; have NB324_331 := n7_; have NB331_324 := n8_; clear n0_ n1_ n2_ n3_ n4_ n5_ n6_ n7_ n8_; clear hb hbox hg; have hnb21 := NB331_324.out; have hnc21 := NB324_331.out; have hcz22_0 : w20.cell? ⟨gb331, 0, none⟩ = some (.int .u64 0) := (bC BK331.out 0).trans rfl; have hcz22_1 : w20.cell? ⟨gb331, 1, none⟩ = some (.slice none 0 0) := (bC BK331.out 1).trans rfl; have hcz22_2 : w20.cell? ⟨gb331, 2, none⟩ = some (.string (⟨#[]⟩ : ByteArray)) := (bC BK331.out 2).trans rfl; have hfz22_0 := bF BK331.out 0; have hfz22_1 := bF BK331.out 1; have hfz22_2 := bF BK331.out 2; obtain ⟨Ao23, co23, eo23⟩ := Kd.N_slice HO328.out; subst eo23))
        have n0_ : Ax (Kd.N k44 44 (((w20.setCell ⟨gb331, 0, none⟩ (.int .u64 t325)).setCell ⟨gb331, 1, none⟩ (.slice Ao23 t326.length co23)).setCell ⟨gb331, 2, none⟩ (.string t329)) w.heap.size (fun k_ => some k_ ≠ (.slice Ao23 t326.length co23 : Value).ownBlock ∧ k_ ≠ gb324 ∧ k_ ≠ gb331) (.slice Ao18 t319.length co18) t319) := ⟨by apply Kd.N_to; exact Kd.N_mono (Kd.N_far (p := ⟨gb331, 2, none⟩) (Kd.N_far (p := ⟨gb331, 1, none⟩) (Kd.N_far (p := ⟨gb331, 0, none⟩) (Kd.N_mono HO321.out (fun k_ hk => (⟨hk, hk.2⟩ : _ ∧ k_ ≠ gb331))) (fun _ hk => hk.2) (.int .u64 t325)) (fun _ hk => hk.2) (.slice Ao23 t326.length co23)) (fun _ hk => hk.2) (.string t329)) (fun _ hk => ⟨hk.1.1.2, ⟨hk.1.1.1.2, hk.1.2⟩⟩)⟩
        have n1_ : Ax (Kd.N k46 46 (((w20.setCell ⟨gb331, 0, none⟩ (.int .u64 t325)).setCell ⟨gb331, 1, none⟩ (.slice Ao23 t326.length co23)).setCell ⟨gb331, 2, none⟩ (.string t329)) w.heap.size (fun k_ => some k_ ≠ (.slice Ao18 t319.length co18 : Value).ownBlock ∧ k_ ≠ gb324 ∧ k_ ≠ gb331) (.slice Ao23 t326.length co23) t326) := ⟨by apply Kd.N_to; exact Kd.N_mono (Kd.N_far (p := ⟨gb331, 2, none⟩) (Kd.N_far (p := ⟨gb331, 1, none⟩) (Kd.N_far (p := ⟨gb331, 0, none⟩) (Kd.N_mono HO328.out (fun k_ hk => (⟨hk, hk.2⟩ : _ ∧ k_ ≠ gb331))) (fun _ hk => hk.2) (.int .u64 t325)) (fun _ hk => hk.2) (.slice Ao23 t326.length co23)) (fun _ hk => hk.2) (.string t329)) (fun _ hk => ⟨hk.1.1.1, ⟨hk.1.1.2, hk.1.2⟩⟩)⟩
        have n2_ : Ax ((((w20.setCell ⟨gb331, 0, none⟩ (.int .u64 t325)).setCell ⟨gb331, 1, none⟩ (.slice Ao23 t326.length co23)).setCell ⟨gb331, 2, none⟩ (.string t329)).heap[gb324]? = some (.cells #[.int .u64 t318, .slice Ao18 t319.length co18, .string t322] 66 (0, 0))) := ⟨by refine bT ?_; refine bR ?_ NB324_331.out _; refine bT ?_; refine bR ?_ NB324_331.out _; refine bT ?_; refine bR ?_ NB324_331.out _; refine bT ?_; exact BK324.out⟩
        have n3_ : Ax ((((w20.setCell ⟨gb331, 0, none⟩ (.int .u64 t325)).setCell ⟨gb331, 1, none⟩ (.slice Ao23 t326.length co23)).setCell ⟨gb331, 2, none⟩ (.string t329)).heap[gb331]? = some (.cells #[.int .u64 t325, .slice Ao23 t326.length co23, .string t329] 68 (0, 0))) := ⟨by refine bT ?_; refine bU (cs := #[.int .u64 t325, .slice Ao23 t326.length co23, .string (⟨#[]⟩ : ByteArray)]) ?_ 2 _ rfl; refine bT ?_; refine bU (cs := #[.int .u64 t325, .slice none 0 0, .string (⟨#[]⟩ : ByteArray)]) ?_ 1 _ rfl; refine bT ?_; refine bU (cs := #[.int .u64 0, .slice none 0 0, .string (⟨#[]⟩ : ByteArray)]) ?_ 0 _ rfl; refine bT ?_; exact BK331.out⟩
        have n4_ : Ax (Below w.heap.size w (((w20.setCell ⟨gb331, 0, none⟩ (.int .u64 t325)).setCell ⟨gb331, 1, none⟩ (.slice Ao23 t326.length co23)).setCell ⟨gb331, 2, none⟩ (.string t329))) := ⟨bA⟩
        (try clear HO321)
        (try clear HO328)
        (try clear BK324)
        (try clear BK331)
        (try clear HB)
        generalize (((w20.setCell ⟨gb331, 0, none⟩ (.int .u64 t325)).setCell ⟨gb331, 1, none⟩ (.slice Ao23 t326.length co23)).setCell ⟨gb331, 2, none⟩ (.string t329)) = w24 at n0_ n1_ n2_ n3_ n4_ ⊢
        have HO321 := n0_
        have HO328 := n1_
        have BK324 := n2_
        have BK331 := n3_
        have HB := n4_
        clear n0_ n1_ n2_ n3_ n4_
        have n0_ := Ax.mk (Kd.N_drew HO321.out)
        have n1_ := Ax.mk (Kd.N_drew HO328.out)
        have n2_ := Ax.mk (blk_drew BK324.out)
        have n3_ := Ax.mk (blk_drew BK331.out)
        have n4_ := Ax.mk (below_drew1 HB.out)
        clear HO321
        clear HO328
        clear BK324
        clear BK331
        clear HB
        have HO321 := n0_
        have HO328 := n1_
        have BK324 := n2_
        have BK331 := n3_
        have HB := n4_
        clear n0_ n1_ n2_ n3_ n4_
        refine start_ (n := 23) (S := fun w' => w'.cell? ⟨gb324, 0, none⟩ = some (.int .u64 t318) ∧ w'.cell? ⟨gb324, 1, none⟩ = some (.slice Ao18 t319.length co18) ∧ w'.cell? ⟨gb324, 2, none⟩ = some (.string t322) ∧ w'.cell? ⟨gb331, 0, none⟩ = some (.int .u64 t325) ∧ w'.cell? ⟨gb331, 1, none⟩ = some (.slice Ao23 t326.length co23) ∧ w'.cell? ⟨gb331, 2, none⟩ = some (.string t329)) (ds := []) (TF 0 23) (by kernel_rfl) rfl rfl ⟨(bC BK324.out 0).trans rfl, (bC BK324.out 1).trans rfl, (bC BK324.out 2).trans rfl, (bC BK331.out 0).trans rfl, (bC BK331.out 1).trans rfl, (bC BK331.out 2).trans rfl⟩ (fun hHeld => ?_); refine with_tabW l13_JournalReads.tab6 l13_JournalReads.bits6 (fun HT_ HW_ => ?_)
        generalize w24.drew = w25 at HO321 HO328 BK324 BK331 HB hHeld ⊢
        refine take_ (i := 0) (N := some 27) (v := ?_) (a' := ?_) (TF 1 22) rfl rfl (take_ofW HT_.out HW_.out (by kernel_rfl)) (fun _ _ _ h => h) (Or.inl ⟨by rfl, ?_⟩) hHeld ?_ ?_
        rotate_left
        ·rintro w' ⟨s0, s1, s2, s3, s4, s5⟩
         go_simp
         with_reducible rfl
        rotate_left
        ·simp only [Act.put, sI, sZ, sS, i64_w, i32_w]
         rfl
        refine take_ (i := 1) (N := some 28) (v := ?_) (a' := ?_) (TF 2 21) rfl rfl (take_ofW HT_.out HW_.out (by kernel_rfl)) (fun _ _ _ h => h) (Or.inl ⟨by rfl, ?_⟩) hHeld ?_ ?_
        rotate_left
        ·rintro w' ⟨s0, s1, s2, s3, s4, s5⟩
         go_simp
         with_reducible rfl
        rotate_left
        ·simp only [Act.put, sI, sZ, sS, i64_w, i32_w]
         rfl
        refine one_ (i := 2) (N := some 29) (TF 3 20) rfl rfl (one_of HT_.out (by kernel_rfl)) (by decide) (fun K hK => ?_)
        refine goes_ Tryd.func41 (by kernel_rfl) rfl #[.agg #[.int .u64 t318, .slice Ao18 t319.length co18, .string t322], .agg #[.int .u64 t325, .slice Ao23 t326.length co23, .string t329]] (by rfl) rfl rfl (by (try simp only [List.map_toArray, List.map_cons, List.map_nil]); first | done | rfl | (simp only [List.length_drop, List.length_take]; rfl) | (rw [wrap_sum2 (by assumption)]; rfl)) ?_
        with_reducible refine (l13_same.calls kj2 t318 _ _ t319 t322 t325 _ _ t326 t329 true _ ?side1 ?side2 ?side3 ?side4 A9.out).mono ?_
        (case side1 => repeat (first | exact (Kd.N_reads' HO321.out).2.2 | (with_reducible refine Kd.C_alloc ?_ _) | (with_reducible refine Kd.C_drewN ?_ _) | (with_reducible refine Kd.C_drew ?_)))
        (case side2 => exact (Kd.N_reads' HO321.out).2.1)
        (case side3 => repeat (first | exact (Kd.N_reads' HO328.out).2.2 | (with_reducible refine Kd.C_alloc ?_ _) | (with_reducible refine Kd.C_drewN ?_ _) | (with_reducible refine Kd.C_drew ?_)))
        (case side4 => exact (Kd.N_reads' HO328.out).2.1)
        rintro e w26 ⟨rfl, hb⟩
        refine ⟨_, rfl, ?_⟩
        have n0_ := Ax.mk (Kd.N_below (by exact Kd.N_to HO321.out) hb)
        have n1_ := Ax.mk (Kd.N_below (by exact Kd.N_to HO328.out) hb)
        have n2_ := Ax.mk (bB (bT BK324.out) hb)
        have n3_ := Ax.mk (bB (bT BK331.out) hb)
        have n4_ := Ax.mk (bP bA hb)
        clear HO321
        clear HO328
        clear BK324
        clear BK331
        clear HB
        have HO321 := n0_
        have HO328 := n1_
        have BK324 := n2_
        have BK331 := n3_
        have HB := n4_
        clear n0_ n1_ n2_ n3_ n4_
        (try clear hb)
        (try clear hb2)
        (try clear hk)
        (try clear hi)
        refine hK.out _ _ ⟨(bC BK324.out 0).trans rfl, (bC BK324.out 1).trans rfl, (bC BK324.out 2).trans rfl, (bC BK331.out 0).trans rfl, (bC BK331.out 1).trans rfl, (bC BK331.out 2).trans rfl⟩ (fun hHeld => ?_)
        clear hK K
        refine norm_ (a' := ?_) ?_ ?_
        rotate_left
        ·show Act.put _ (some 29) _ = _
         simp only [Act.put, sI, sZ, sS, i64_w, i32_w]
         rfl
        refine pure_ (i := 3) (N := some 30) (v := ?_) (a' := ?_) (TF 4 19) rfl rfl (any_of HT_.out (by kernel_rfl)) (fun _ _ _ h => h) (Or.inl ⟨by rfl, ?_⟩) ?_ ?_
        rotate_left; · intro w'; go_simp; with_reducible rfl
        rotate_left; · simp only [Act.put, sI, sZ, sS, i64_w, i32_w]; rfl
        refine pure_ (i := 4) (N := some 31) (v := ?_) (a' := ?_) (TF 5 18) rfl rfl (any_of HT_.out (by kernel_rfl)) (fun _ _ _ h => h) (Or.inl ⟨by rfl, ?_⟩) ?_ ?_
        rotate_left; · intro w'; go_simp; with_reducible rfl
        rotate_left; · simp only [Act.put, sI, sZ, sS, i64_w, i32_w]; rfl
        refine pure_ (i := 5) (N := some 32) (v := ?_) (a' := ?_) (TF 6 17) rfl rfl (any_of HT_.out (by kernel_rfl)) (fun _ _ _ h => h) (Or.inl ⟨by rfl, ?_⟩) ?_ ?_
        rotate_left; · intro w'; go_simp; with_reducible rfl
        rotate_left; · simp only [Act.put, sI, sZ, sS, i64_w, i32_w]; rfl
        refine pure_ (i := 6) (N := some 33) (v := ?_) (a' := ?_) (TF 7 16) rfl rfl (any_of HT_.out (by kernel_rfl)) (fun _ _ _ h => h) (Or.inl ⟨by rfl, ?_⟩) ?_ ?_
        rotate_left; · intro w'; go_simp; with_reducible rfl
        rotate_left; · simp only [Act.put, sI, sZ, sS, i64_w, i32_w]; rfl
        refine pure_ (i := 7) (N := some 34) (v := ?_) (a' := ?_) (TF 8 15) rfl rfl (any_of HT_.out (by kernel_rfl)) (fun _ _ _ h => h) (Or.inl ⟨by rfl, ?_⟩) ?_ ?_
        rotate_left; · intro w'; go_simp; with_reducible rfl
        rotate_left; · simp only [Act.put, sI, sZ, sS, i64_w, i32_w]; rfl
        refine pure_ (i := 8) (N := some 35) (v := ?_) (a' := ?_) (TF 9 14) rfl rfl (any_of HT_.out (by kernel_rfl)) (fun _ _ _ h => h) (Or.inl ⟨by rfl, ?_⟩) ?_ ?_
        rotate_left; · intro w'; go_simp; with_reducible rfl
        rotate_left; · simp only [Act.put, sI, sZ, sS, i64_w, i32_w]; rfl
        refine pure_ (i := 9) (N := some 36) (v := ?_) (a' := ?_) (TF 10 13) rfl rfl (any_of HT_.out (by kernel_rfl)) (fun _ _ _ h => h) (Or.inl ⟨by rfl, ?_⟩) ?_ ?_
        rotate_left; · intro w'; go_simp; with_reducible rfl
        rotate_left; · simp only [Act.put, sI, sZ, sS, i64_w, i32_w]; rfl
        refine pure_ (i := 10) (N := some 37) (v := ?_) (a' := ?_) (TF 11 12) rfl rfl (any_of HT_.out (by kernel_rfl)) (fun _ _ _ h => h) (Or.inl ⟨by rfl, ?_⟩) ?_ ?_
        rotate_left; · intro w'; go_simp; with_reducible rfl
        rotate_left; · simp only [Act.put, sI, sZ, sS, i64_w, i32_w]; rfl
        refine pure_ (i := 11) (N := some 38) (v := ?_) (a' := ?_) (TF 12 11) rfl rfl (any_of HT_.out (by kernel_rfl)) (fun _ _ _ h => h) (Or.inl ⟨by rfl, ?_⟩) ?_ ?_
        rotate_left; · intro w'; go_simp; with_reducible rfl
        rotate_left; · simp only [Act.put, sI, sZ, sS, i64_w, i32_w]; rfl
        refine pure_ (i := 12) (N := some 39) (v := ?_) (a' := ?_) (TF 13 10) rfl rfl (any_of HT_.out (by kernel_rfl)) (fun _ _ _ h => h) (Or.inl ⟨by rfl, ?_⟩) ?_ ?_
        rotate_left; · intro w'; go_simp; with_reducible rfl
        rotate_left; · simp only [Act.put, sI, sZ, sS, i64_w, i32_w]; rfl
        refine pure_ (i := 13) (N := some 40) (v := ?_) (a' := ?_) (TF 14 9) rfl rfl (any_of HT_.out (by kernel_rfl)) (fun _ _ _ h => h) (Or.inl ⟨by rfl, ?_⟩) ?_ ?_
        rotate_left; · intro w'; go_simp; with_reducible rfl
        rotate_left; · simp only [Act.put, sI, sZ, sS, i64_w, i32_w]; rfl
        refine pure_ (i := 14) (N := some 41) (v := ?_) (a' := ?_) (TF 15 8) rfl rfl (any_of HT_.out (by kernel_rfl)) (fun _ _ _ h => h) (Or.inl ⟨by rfl, ?_⟩) ?_ ?_
        rotate_left; · intro w'; go_simp; with_reducible rfl
        rotate_left; · simp only [Act.put, sI, sZ, sS, i64_w, i32_w]; rfl
        refine pure_ (i := 15) (N := some 42) (v := ?_) (a' := ?_) (TF 16 7) rfl rfl (any_of HT_.out (by kernel_rfl)) (fun _ _ _ h => h) (Or.inl ⟨by rfl, ?_⟩) ?_ ?_
        rotate_left; · intro w'; go_simp; with_reducible rfl
        rotate_left; · simp only [Act.put, sI, sZ, sS, i64_w, i32_w]; rfl
        refine pure_ (i := 17) (N := some 44) (v := ?_) (a' := ?_) (BT 23 196607) rfl rfl (any_of HT_.out (by kernel_rfl)) (fun _ _ _ h => h) (Or.inl ⟨by rfl, ?_⟩) ?_ ?_
        rotate_left; · intro w'; go_simp; with_reducible rfl
        rotate_left; · simp only [Act.put, sI, sZ, sS, i64_w, i32_w]; rfl
        refine pure_ (i := 18) (N := some 45) (v := ?_) (a' := ?_) (BT 23 458751) rfl rfl (any_of HT_.out (by kernel_rfl)) (fun _ _ _ h => h) (Or.inl ⟨by rfl, ?_⟩) ?_ ?_
        rotate_left; · intro w'; go_simp; with_reducible rfl
        rotate_left; · simp only [Act.put, sI, sZ, sS, i64_w, i32_w]; rfl
        refine pure_ (i := 19) (N := some 46) (v := ?_) (a' := ?_) (BT 23 983039) rfl rfl (any_of HT_.out (by kernel_rfl)) (fun _ _ _ h => h) (Or.inl ⟨by rfl, ?_⟩) ?_ ?_
        rotate_left; · intro w'; go_simp; with_reducible rfl
        rotate_left; · simp only [Act.put, sI, sZ, sS, i64_w, i32_w]; rfl
        refine take_ (i := 16) (N := some 43) (v := ?_) (a' := ?_) (TF 20 3) rfl rfl (take_ofW HT_.out HW_.out (by kernel_rfl)) (fun _ _ _ h => h) (Or.inl ⟨by rfl, ?_⟩) hHeld ?_ ?_
        rotate_left
        ·rintro w' ⟨s0, s1, s2, s3, s4, s5⟩
         go_simp
         with_reducible rfl
        rotate_left
        ·simp only [Act.put, sI, sZ, sS, i64_w, i32_w]
         rfl
        refine pure_ (i := 20) (N := some 47) (v := ?_) (a' := ?_) (TF 21 2) rfl rfl (any_of HT_.out (by kernel_rfl)) (fun _ _ _ h => h) (Or.inl ⟨by rfl, ?_⟩) ?_ ?_
        rotate_left; · intro w'; go_simp; with_reducible rfl
        rotate_left; · simp only [Act.put, sI, sZ, sS, i64_w, i32_w]; rfl
        refine pure_ (i := 21) (N := some 48) (v := ?_) (a' := ?_) (TF 22 1) rfl rfl (any_of HT_.out (by kernel_rfl)) (fun _ _ _ h => h) (Or.inl ⟨by rfl, ?_⟩) ?_ ?_
        rotate_left; · intro w'; go_simp; with_reducible rfl
        rotate_left; · simp only [Act.put, sI, sZ, sS, i64_w, i32_w]; rfl
        refine pure_ (i := 22) (N := some 2) (v := ?_) (a' := ?_) (TF 23 0) rfl rfl (any_of HT_.out (by kernel_rfl)) (fun _ _ _ h => h) (Or.inl ⟨by rfl, ?_⟩) ?_ ?_
        rotate_left; · intro w'; go_simp; with_reducible rfl
        rotate_left; · simp only [Act.put, sI, sZ, sS, i64_w, i32_w]; rfl
        refine done_ (done_of HT_.out (by kernel_rfl)) ?_
        try go_wp2
        go_ret
        exact ⟨by first | rfl | (simp [errW_none, errW_some] <;> rfl) | (simp [*, errW_none, errW_some] <;> rfl), bA⟩
       ·rw [if_neg c13] at H
        exact absurd H (by simp)
      ·rw [if_neg c12] at H
       have c12b0 : decide (t323 ≤ (a0.size : Int)) = false := decide_eq_false c12
       clear c12
       exact absurd H (by simp)
     ·rw [if_neg c11] at H
      have c11b0 : (t323 == t330) = false := beq_eq_false_iff_ne.mpr c11
      have c11b1 : (t323 != t330) = true := bne_iff_ne.mpr c11
      exact absurd H (by simp)
    ·replace c10 := Bool.eq_false_iff.mpr c10
     subst c10
     have H1 : (none) = some r := by rw [if_neg (show ¬ (false = true) by decide)] at H; exact H
     clear H
     have H := H1
     clear H1
     exact absurd H (by simp)
end Go.Proofs.YtboommbclbjlnaaDoor.Fn
end
